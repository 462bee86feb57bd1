/-
  The rules of the walk, their side conditions paid by themselves. Conditions: as each says.
-/
import Derived.Test.YtcblkjmnigbiiaaDoorVN
import Derived.Test.YtcblkjmnigbiiaaDoorVQ
import Derived.KernelRfl
set_option linter.unusedSimpArgs false
set_option linter.unusedVariables false
set_option linter.unusedSectionVars false
namespace Go.Vw
open Go.RowKit

/-- The same, with the value's head in the open. -/
def forceV (C : Prop) : V → Ev V
  | .d y => some (C, .d y)
  | .own k o n ty sz => some (C, .own k o n ty sz)
  | .ptr k o => some (C, .ptr k o)
  | .eptr k sz i f => some (C, .eptr k sz i f)
  | .agg cs => some (C, .agg cs)
  | .tup cs => some (C, .tup cs)
  | .fn f cs => some (C, .fn f cs)
theorem forceV_eq (C : Prop) (x : V) : forceV C x = some (C, x) := by cases x <;> rfl
def evalF (T : TypeId → Option TyD) (m : Bool) (s : St) (op : Op) : Ev V :=
  match evalQ T m s op with
  | some (C, x) => forceV C x
  | none => none
theorem evalF_eq (T : TypeId → Option TyD) (m : Bool) (s : St) (op : Op) : evalF T m s op = evalQ T m s op := by
  unfold evalF
  split
  · rename_i C x h; rw [forceV_eq, h]
  · rename_i h; rw [h]

theorem le2 {α β : Type} {e : α × β → List D} {cs : List D} {a : α} {b : β} (h : LeL cs (e (a, b))) : LeL cs (e (a, b)) := h
theorem le3 {α β γ : Type} {e : α × β × γ → List D} {cs : List D} {a : α} {b : β} {c : γ} (h : LeL cs (e (a, b, c))) : LeL cs (e (a, b, c)) := h

@[reducible] def eI (k : IntKind) (x : Int) : List D := [.int k x]
@[reducible] def eN (k : IntKind) (x : Nat) : List D := [.int k (x : Int)]
@[reducible] def u32s (l : List Nat) : D := .sl 1 (eN .u32) 0 l
@[reducible] def i64s (l : List Int) : D := .sl 1 (eI .i64) 0 l
theorem leN {k : IntKind} {x : Int} (h : 0 ≤ x) : LeL [.int k x] (eN k x.toNat) := by
  rw [eN, Int.toNat_of_nonneg h]; exact LeL.refl _
theorem boolFits_of {dd : TyD} {b : Bool} (h : TypeDesc.isBool dd.desc = true) : boolFits dd (.bool b) := h
theorem iv {k : IntKind} {a b : Int} (h : a = b) : V.d (.int k a) = V.d (.int k b) := by rw [h]
theorem i64max : IntKind.i64.max = 9223372036854775807 := rfl
/-- Side conditions of operations. -/
theorem sc {C : Prop} (h : C := by first | ((repeat' (first | exact trivial | apply And.intro | omega | exact Go.Vw.boolFits_of rfl | decide | with_reducible rfl | with_reducible assumption | (with_reducible show (_ : Nat) = _; exact rfl) | (simp only [IntKind.bits, Go.Vw.i64max, List.length_append, List.length_cons, List.length_nil, List.length_set, List.length_replicate, List.length_take, List.length_drop, List.length_map, List.length_range] <;> omega))); done) | fail) : C := h
theorem LeD.eqi {k : IntKind} {x y : Int} (h : x = y) : LeD (.int k x) (.int k y) := by subst h; exact LeD.refl _
theorem leEq {k : IntKind} {x : Int} {n : Nat} (h : x = (n : Int)) : LeL [.int k x] (eN k n) := by subst h; exact LeL.refl _
theorem leEqI {k : IntKind} {x y : Int} (h : x = y) : LeL [.int k x] (eI k y) := by subst h; exact LeL.refl _
theorem LeD.full {sz : Nat} {α : Type} {e : α → List D} {z : α} {l : List α} : LeD (.sl sz e z (cut 0 l.length l)) (.sl sz e z l) := by
  rw [cut_all]; exact LeD.refl _
theorem LeD.tk0 {sz n : Nat} {α : Type} {e : α → List D} {z : α} {l : List α} : LeD (.sl sz e z (cut 0 n l)) (.sl sz e z (l.take n)) := by
  rw [cut_zero]; exact LeD.refl _
theorem leB {x : Int} (h : 0 ≤ x ∧ x < 256) : LeL [.int .u8 x] (eB (UInt8.ofNat x.toNat)) := by
  have : ((UInt8.ofNat x.toNat).toNat : Int) = x := by
    rw [UInt8.toNat_ofNat']
    have : x.toNat % 2 ^ 8 = x.toNat := Nat.mod_eq_of_lt (by omega)
    rw [this]; omega
  rw [eB, this]; exact LeL.refl _
/-- Data in another form. -/
theorem leL {xs ys : List D} (h : LeL xs ys := by
  first
  | with_reducible exact Go.Vw.LeL.refl _
  | exact Go.Vw.leB (by omega)
  | exact Go.Vw.leN (by omega)
  | exact Go.Vw.LeL.refl _
  | exact Go.Vw.leEq (by omega)
  | exact Go.Vw.leEqI (by omega)
  | ((repeat' (first | exact Go.Vw.LeD.refl _ | exact Go.Vw.LeL.nil | apply Go.Vw.LeL.cons | exact Go.Vw.LeD.nils | apply Go.Vw.LeD.agg | exact Go.Vw.LeD.lit rfl Go.Vw.LeR.nil | (refine Go.Vw.LeD.lit rfl (Go.Vw.LeR.cons rfl ?_ ?_)) | exact Go.Vw.LeL.refl _ | exact Go.Vw.LeR.nil | (refine Go.Vw.LeR.cons rfl ?_ ?_))); done)
  | (refine Go.Vw.le3 ?_; (repeat' (first | exact Go.Vw.LeD.refl _ | exact Go.Vw.LeL.nil | apply Go.Vw.LeL.cons | exact Go.Vw.LeD.nils | apply Go.Vw.LeD.agg)); done)
  | (refine Go.Vw.le2 ?_; (repeat' (first | exact Go.Vw.LeD.refl _ | exact Go.Vw.LeL.nil | apply Go.Vw.LeL.cons | exact Go.Vw.LeD.nils | apply Go.Vw.LeD.agg)); done)
  | fail) : LeL xs ys := h
theorem leT {xs ys : List D} (h : LeT xs ys := by
  first
  | ((repeat' (first | exact Go.Vw.LeD.full | exact Go.Vw.LeD.tk0 | exact Go.Vw.LeD.refl _ | exact Go.Vw.LeT.nil | exact Go.Vw.LeD.eqi (by omega) | apply Go.Vw.LeT.cons | exact Go.Vw.LeD.nils | (refine Go.Vw.LeD.agg ?_; exact Go.Vw.leL) | (refine Go.Vw.LeD.lit rfl ?_; repeat' (first | exact Go.Vw.LeR.nil | refine Go.Vw.LeR.cons rfl Go.Vw.leL ?_)) | (refine Go.Vw.LeD.fn ?_; exact Go.Vw.leL) | (refine Go.Vw.LeD.ptr ?_ _; exact Go.Vw.leL))); done)
  | fail) : LeT xs ys := h
theorem src_lit {X : Ctx} {s : St} {sz n : Nat} {α : Type} {e : α → List D} {rows : List (List D)} {a : α} {l : List α} (hn : rows.length = n) (h : LeR sz rows e (a :: l)) : SrcOk X s (.d (.sl sz (nth [] rows) 0 (iota n 0))) sz e (a :: l) := src_data (z := a) (LeD.lit hn h)
theorem srcOk {X : Ctx} {s : St} {y : V} {sz : Nat} {α : Type} {e : α → List D} {l : List α} (h : SrcOk X s y sz e l := by
  first
  | exact Go.Vw.src_data (Go.Vw.LeD.refl _)
  | exact Go.Vw.src_lit rfl (Go.Vw.LeR.cons rfl Go.Vw.leL Go.Vw.LeR.nil)
  | exact Go.Vw.src_lit rfl (Go.Vw.LeR.cons rfl Go.Vw.leL (Go.Vw.LeR.cons rfl Go.Vw.leL Go.Vw.LeR.nil))
  | exact Go.Vw.src_data Go.Vw.LeD.nils
  | exact Go.Vw.src_all rfl rfl
  | exact Go.Vw.src_own rfl
  | fail) : SrcOk X s y sz e l := h

theorem tt : true = true := rfl
theorem ff : false = false := rfl
theorem stt : some true = some true := rfl
theorem sff : some false = some false := rfl
/-- The kind of an operation: what rule it takes. -/
def opK : Op → Nat
  | .store .. => 1
  | .alloc _ => 2
  | .box _ _ => 2
  | .call ⟨.builtin .append, _, _⟩ => 3
  | .call ⟨.builtin _, _, _⟩ => 0
  | .call _ => 6
  | .makeSlice .. => 4
  | .buildSlice .. => 5
  | _ => 0
section
variable {X : Ctx} {all : Array Oper} {s : St} {o : Oper}
theorem m_q (m : Bool) (hg : gd all s o = some true) {C : Prop} {x : V} (hq : evalF X.T m s o.op = some (C, x)) (hC : C) : M1 X all s o x := m_quiet X.ok m hg (by rw [evalF_eq] at hq; exact hq) hC
variable {Q : Exit → St → Prop} {rest : List Oper}
theorem stepM {x : V} {d : Tmp} (hdst : o.dst = some d) (hd : dstOk X.N (some d) = true) (h : M1 X all s o x) (k : awpL X all rest Q (s.put (some d) x)) : awpL X all (o :: rest) Q s := by
  rw [← hdst] at hd k; exact awpL_step (h.e1 hd) k
theorem stepQ {d : Tmp} {C : Prop} {x : V} (m : Bool) (hk : Nat.beq (opK o.op) 0 = true) (hg : gd all s o = some true) (hdst : o.dst = some d) (hd : dstOk X.N (some d) = true) (hq : evalF X.T m s o.op = some (C, x)) (hC : C) (k : awpL X all rest Q (s.put (some d) x)) : awpL X all (o :: rest) Q s := stepM hdst hd (m_q m hg hq hC) k
theorem stepOff {d : Tmp} (hg : gd all s o = some false) (hdst : o.dst = some d) (hd : dstOk X.N (some d) = true) (k : awpL X all rest Q (s.put (some d) (.d (.tup [])))) : awpL X all (o :: rest) Q s := stepM hdst hd (m_off hg) k
theorem stepM0 {x : V} (hk : Nat.beq (opK o.op) 0 = true) (hdst : o.dst = none) (h : M1 X all s o x) (k : awpL X all rest Q s) : awpL X all (o :: rest) Q s := by
  refine awpL_step (h.e1 (by rw [hdst]; rfl)) ?_; rw [hdst]; exact k
theorem stepE1 {s' : St} {x : V} {d : Tmp} (hkk : Nat.beq (opK o.op) 2 = true) (hdst : o.dst = some d) (hg : gd all s o = some true) (hd : dstOk X.N (some d) = true) (hK : X.K.contains d = false) (h : evalE X.T s (some d) o.op = some (some x, s')) (k : awpL X all rest Q (s'.put (some d) x)) : awpL X all (o :: rest) Q s := by
  obtain ⟨dst, op, ty, pos, after, g⟩ := o
  cases hdst
  exact awpL_step (e_eff X.ok hg hd (fun d' e => by cases e; exact hK) h) k
theorem stepE0 {s' : St} (hkk : Nat.beq (opK o.op) 1 = true) (hdst : o.dst = none) (hg : gd all s o = some true) (h : evalE X.T s none o.op = some (none, s')) (k : awpL X all rest Q s') : awpL X all (o :: rest) Q s := by
  obtain ⟨dst, op, ty, pos, after, g⟩ := o
  cases hdst
  exact awpL_step (e_eff X.ok hg rfl (fun d' e => by cases e) h) k
end

/-- The same, with the element that stands for none. -/
def SrcZ (X : Ctx) (s : St) (y : V) (sz : Nat) {α : Type} (e : α → List D) (z : α) (l : List α) : Prop := SrcOk X s y sz e l
theorem srcz_sl {X : Ctx} {s : St} {y : D} {sz : Nat} {α : Type} {e : α → List D} {z : α} {l : List α} (h : y = .sl sz e z l) : SrcZ X s (.d y) sz e z l := by
  subst h; exact src_data (LeD.refl _)
theorem srcz_lit {X : Ctx} {s : St} {y : D} {sz : Nat} {α : Type} [Inhabited α] {e : α → List D} {l : List α} (h : SrcOk X s (.d y) sz e l) : SrcZ X s (.d y) sz e default l := h
theorem srcz_all {X : Ctx} {s : St} {k n : Nat} {ty ty' : TypeId} {sz : Nat} {α : Type} {e : α → List D} {z : α} {l : List α} (hk : s.blk k = some (.data ty' sz e z l)) (hn : n = l.length) : SrcZ X s (.own k 0 n ty sz) sz e z l := src_all hk hn
theorem srcz_own {X : Ctx} {s : St} {k o n : Nat} {ty ty' : TypeId} {sz : Nat} {α : Type} {e : α → List D} {z : α} {l : List α} (hk : s.blk k = some (.data ty' sz e z l)) : SrcZ X s (.own k o n ty sz) sz e z (cut o n l) := src_own hk
theorem srcZ {X : Ctx} {s : St} {y : V} {sz : Nat} {α : Type} {e : α → List D} {z : α} {l : List α} (h : SrcZ X s y sz e z l := by
  first
  | exact Go.Vw.srcz_sl rfl
  | exact Go.Vw.srcz_lit (Go.Vw.src_lit rfl (Go.Vw.LeR.cons rfl Go.Vw.leL Go.Vw.LeR.nil))
  | exact Go.Vw.srcz_lit (Go.Vw.src_lit rfl (Go.Vw.LeR.cons rfl Go.Vw.leL (Go.Vw.LeR.cons rfl Go.Vw.leL Go.Vw.LeR.nil)))
  | exact Go.Vw.srcz_all rfl rfl
  | exact Go.Vw.srcz_own rfl
  | fail) : SrcZ X s y sz e z l := h
/-- A variable's data in another form. -/
theorem SR.rebox {X : Ctx} {io : Nat → Option Nat} {F : Nat → Prop} {s : St} {a : Act} {w : World} (hs : SR X io F s a w) {k : Nat} {ty : TypeId} {cs : List V} {ds ds' : List D} (hk : s.blk k = some (.box ty cs)) (hd : allD cs = some ds) (le : LeL ds ds') : SR X io F (s.withBlk k (.box ty (ds'.map V.d))) a w := by
  have hbr := hs.bl k _ hk
  simp only [BR] at hbr
  obtain ⟨b, arr, h1, h2, h3, h4, h5⟩ := hbr
  refine hs.setBlk (by rw [ln_of hk]; simp [Blk.ln]) ?_ fun j c hj hb e1 e2 => hj (hs.inj j k c hb (by rw [hk]; simp) e1 e2)
  simp only [BR]
  refine ⟨b, arr, h1, h2, h3, h4, DRA.toV (le.2 F w _ _ (VRA.ofD hd h5))⟩
theorem awpL_rebox {X : Ctx} {all : Array Oper} {ops : List Oper} {Q : Exit → St → Prop} {s : St} (k : Nat) (ds' : List D) {ty : TypeId} {cs : List V} {ds : List D} (hk : s.blk k = some (.box ty cs)) (hd : allD cs = some ds) (le : LeL ds ds') (h : awpL X all ops Q (s.withBlk k (.box ty (ds'.map V.d)))) : awpL X all ops Q s := fun io F a w hs => h io F a w (SR.rebox hs hk hd le)
theorem awp_rebox {X : Ctx} {c : Code} {Q : Exit → St → Prop} {s : St} (k : Nat) (ds' : List D) {ty : TypeId} {cs : List V} {ds : List D} (hk : s.blk k = some (.box ty cs)) (hd : allD cs = some ds) (le : LeL ds ds') (h : awp X c Q (s.withBlk k (.box ty (ds'.map V.d)))) : awp X c Q s := fun io F a w hs => h io F a w (SR.rebox hs hk hd le)
section
variable {X : Ctx} {all : Array Oper} {s : St} {o : Oper} {Q : Exit → St → Prop} {rest : List Oper} {d : Tmp} {α : Type} {en : α → List D} {z : α} {l : List α} {td ed : TyD}
theorem stepStore {t ety : TypeId} {addr x : Operand} {k sz i f : Nat} {y : D} {cs : List D} {a' : α} (hkk : Nat.beq (opK o.op) 1 = true) (hop : o.op = .store t addr x) (hdst : o.dst = none) (hg : gd all s o = some true) (ht : X.T t = some td) (ha : s.opd addr = .eptr k sz i f) (hk : s.blk k = some (.data ety sz en z l)) (hx : s.opd x = .d y) (hst : ((V.d y).storable && Nat.beq y.cells.length td.size) = true) (hp : putL (en (l.getD i z)) f y.cells = some cs) (hle : LeL cs (en a')) (hi : i < l.length) (r : awpL X all rest Q (s.withBlk k (.data ety sz en z (l.set i a')))) : awpL X all (o :: rest) Q s := by
  obtain ⟨dst, op, ty, pos, after, g⟩ := o
  cases hop; cases hdst
  exact awpL_step (e_store X.ok hg ht ha hk hx hst hp hle hi) r
theorem stepStoreV {t ety : TypeId} {addr x : Operand} {k i k2 o2 n2 : Nat} {ty2 : TypeId} {sz2 : Nat} (hkk : Nat.beq (opK o.op) 1 = true) (hop : o.op = .store t addr x) (hdst : o.dst = none) (hg : gd all s o = some true) (hx : s.opd x = .own k2 o2 n2 ty2 sz2) (ht : X.T t = some td) (ha : s.opd addr = .eptr k 1 i 0) (hk : s.blk k = some (.data ety 1 en z l)) (hsz : Nat.beq td.size 1 = true) (hi : i < l.length) (r : awpL X all rest Q (s.withBlk k (.hole ety 1 en z l i (.own k2 o2 n2 ty2 sz2)))) : awpL X all (o :: rest) Q s := by
  obtain ⟨dst, op, ty, pos, after, g⟩ := o
  cases hop; cases hdst
  exact awpL_step (e_storeV X.ok hg ht ha hk hx hsz hi) r
theorem awpL_fill (k : Nat) {ty : TypeId} {sz : Nat} {i : Nat} {y : D} (a' : α) {ops : List Oper} (hk : s.blk k = some (.hole ty sz en z l i (.d y))) (hle : LeL [y] (en a')) (hi : i < l.length) (h : awpL X all ops Q (s.withBlk k (.data ty sz en z (l.set i a')))) : awpL X all ops Q s := fun io F a w hs => h io F a w (hs.fill hk hle hi)
theorem awp_fill (k : Nat) {ty : TypeId} {sz : Nat} {i : Nat} {y : D} (a' : α) {c : Code} (hk : s.blk k = some (.hole ty sz en z l i (.d y))) (hle : LeL [y] (en a')) (hi : i < l.length) (h : awp X c Q (s.withBlk k (.data ty sz en z (l.set i a')))) : awp X c Q s := fun io F a w hs => h io F a w (hs.fill hk hle hi)
theorem stepApp {t : TypeId} {c : Call} {x y : Operand} {e : TypeId} {k n : Nat} {l2 : List α} (hkk : Nat.beq (opK o.op) 3 = true) (hop : o.op = .call c) (hc : c = ⟨.builtin .append, #[x, y], #[t, t]⟩) (hdst : o.dst = some d) (hg : gd all s o = some true) (hd : dstOk X.N (some d) = true) (ht : X.T t = some td) (hds : td.desc = .slice e) (he : X.T e = some ed) (hx : s.opd x = .own k 0 n e ed.size) (hK : X.K.contains k = false) (hk : s.blk k = some (.data e ed.size en z l)) (hz : zeroOk ed = true) (hn : n = l.length) (hy : SrcOk X s (s.opd y) ed.size en l2) (hb : l.length + l2.length ≤ 9223372036854775807 ∧ (l.length + l2.length) * ed.bytes ≤ 140737488355328) (r : awpL X all rest Q ((s.new k (.data e ed.size en z (l ++ l2))).put (some d) (.own k 0 (l ++ l2).length e ed.size))) : awpL X all (o :: rest) Q s := by
  obtain ⟨dst, op, ty, pos, after, g⟩ := o
  cases hop; cases hdst; subst hc
  exact awpL_step (e_append X.ok hg hd ht hds he hK hx hk hn hy hz hb) r
theorem stepAppNil {t : TypeId} {c : Call} {x y : Operand} {e : TypeId} {l2 : List α} (hkk : Nat.beq (opK o.op) 3 = true) (hop : o.op = .call c) (hc : c = ⟨.builtin .append, #[x, y], #[t, t]⟩) (hdst : o.dst = some d) (hg : gd all s o = some true) (hd : dstOk X.N (some d) = true) (ht : X.T t = some td) (hds : td.desc = .slice e) (he : X.T e = some ed) (hx : s.opd x = .d .nils) (hK : X.K.contains d = false) (hz : zeroOk ed = true) (hy : SrcZ X s (s.opd y) ed.size en z l2) (hb : l2.length ≤ 9223372036854775807 ∧ l2.length * ed.bytes ≤ 140737488355328) (r : awpL X all rest Q (((s.new d (.data e ed.size en z [])).new d (.data e ed.size en z l2)).put (some d) (.own d 0 l2.length e ed.size))) : awpL X all (o :: rest) Q s := by
  obtain ⟨dst, op, ty, pos, after, g⟩ := o
  cases hop; cases hdst; subst hc
  exact awpL_step (e_appnil X.ok hg hd ht hds he hK hx hy hz hb) r
theorem stepMake {mm : Bool} {t e : TypeId} {lo co : Operand} {n m : Int} {C : Prop} {j : Nat} (hkk : Nat.beq (opK o.op) 4 = true) (hop : o.op = .makeSlice t lo co) (hdst : o.dst = some d) (hg : gd all s o = some true) (hd : dstOk X.N (some d) = true) (hK : X.K.contains d = false) (ht : X.T t = some td) (hds : td.desc = .slice e) (he : X.T e = some ed) (hl : intOfV (s.opd lo) = some n) (hc : intOfV (s.opd co) = some m) (hn : natOf mm n = some (C, ⟨j⟩)) (hz : zeroOk ed = true) (le : LeL (D.ofV ed.zero).cells (en z)) (hC : C) (hb : n ≤ m ∧ m * ed.bytes ≤ 140737488355328 ∧ m ≤ 9223372036854775807) (r : awpL X all rest Q ((s.new d (.data e ed.size en z (List.replicate j z))).put (some d) (.own d 0 j e ed.size))) : awpL X all (o :: rest) Q s := by
  obtain ⟨dst, op, ty, pos, after, g⟩ := o
  cases hop; cases hdst
  exact awpL_step (e_make X.ok hg hd hK ht hds he hl hc hn hz le hC hb) r
theorem stepLit {e : TypeId} {sz len : Nat} {rows : List (List D)} (hkk : Nat.beq (opK o.op) 5 = true) (h : evalB X.T s o.op = some (e, sz, len, rows)) (hdst : o.dst = some d) (hg : gd all s o = some true) (hd : dstOk X.N (some d) = true) (k : awpL X all rest Q (s.put (some d) (.d (.sl sz (nth [] rows) 0 (iota len 0))))) : awpL X all (o :: rest) Q s := stepM hdst hd (m_lit X.ok hg h) k
theorem stepOwn (en : α → List D) (z : α) (l : List α) {e : TypeId} {sz len : Nat} {rows : List (List D)} (h : evalB X.T s o.op = some (e, sz, len, rows)) (hdst : o.dst = some d) (hg : gd all s o = some true) (hd : dstOk X.N (some d) = true) (hK : X.K.contains d = false) (hl : LeR sz rows en l) (k : awpL X all rest Q ((s.new d (.data e sz en z l)).put (some d) (.own d 0 l.length e sz))) : awpL X all (o :: rest) Q s := by
  obtain ⟨dst, op, ty, pos, after, g⟩ := o
  cases hdst
  exact awpL_step (e_lit X.ok hg hd hK h hl) k
end

/-- Something is appended to a slice literal later on. -/
def litApp (d : Tmp) : List Oper → Bool
  | [] => false
  | o :: r => match o.op with
    | .call ⟨.builtin .append, args, _⟩ => (match args.toList with | .tmp t :: _ => Nat.beq t d | _ => false) || litApp d r
    | _ => litApp d r
section
variable {X : Ctx} {all : Array Oper} {s : St} {o : Oper} {Q : Exit → St → Prop} {pre rest : List Oper} {d : Tmp} {α : Type} {en : α → List D} {z : α} {l l2 : List α} {td ed : TyD} {d1 d2 : D}
theorem stepLitF {e : TypeId} {sz len : Nat} {rows : List (List D)} (hkk : Nat.beq (opK o.op) 5 = true) (hdst : o.dst = some d) (hla : litApp d rest = true) (h : evalB X.T s o.op = some (e, sz, len, rows)) (hg : gd all s o = some true) (hd : dstOk X.N (some d) = true) (k : awpL X all rest Q (s.put (some d) (.d (.full (.sl sz (nth [] rows) 0 (iota len 0)))))) : awpL X all (o :: rest) Q s := stepM hdst hd (m_litF X.ok hg h) k
theorem m_appF' {t : TypeId} {c : Call} {x y : Operand} {e : TypeId} (hop : o.op = .call c) (hc : c = ⟨.builtin .append, #[x, y], #[t, t]⟩) (hg : gd all s o = some true) (ht : X.T t = some td) (hds : td.desc = .slice e) (he : X.T e = some ed) (hx : s.opd x = .d (.full d1)) (hz : zeroOk ed = true) (hy : s.opd y = .d d2) (le2 : LeD d2 (.sl ed.size en z l2)) (le1 : LeD d1 (.sl ed.size en z l)) (hb : l.length + l2.length ≤ 9223372036854775807 ∧ (l.length + l2.length) * ed.bytes ≤ 140737488355328) : M1 X all s o (.d (.sl ed.size en z (l ++ l2))) := by
  subst hc; exact m_appF X.ok hop hg ht hds he hx le1 hy le2 hz hb
theorem stepB2S {src dst e : TypeId} {y : Operand} {sd dd : TyD} {l : List UInt8} (hop : o.op = .convert src dst y) (hdst : o.dst = some d) (hs : X.T src = some sd) (hsd : sd.desc = .slice e) (hdt : X.T dst = some dd) (hdd : dd.desc = .string) (he : X.T e = some ed) (hed : ed.desc = .int .u8) (hg : gd all s o = some true) (hd : dstOk X.N (some d) = true) (hy : s.opd y = .d d1) (le : LeD d1 (.sl 1 eB 0 l)) (k : awpL X all rest Q (s.put (some d) (.d (.str l)))) : awpL X all (o :: rest) Q s := stepM hdst hd (m_b2s X.ok hop hg hs hsd he hed hdt hdd hy le) k
theorem stepB2SO {src dst e : TypeId} {y : Operand} {sd dd : TyD} {l : List UInt8} {k o1 n : Nat} {ty ty' : TypeId} {z : UInt8} (hop : o.op = .convert src dst y) (hdst : o.dst = some d) (hs : X.T src = some sd) (hsd : sd.desc = .slice e) (hdt : X.T dst = some dd) (hdd : dd.desc = .string) (he : X.T e = some ed) (hed : ed.desc = .int .u8) (hg : gd all s o = some true) (hd : dstOk X.N (some d) = true) (hy : s.opd y = .own k o1 n ty 1) (hk : s.blk k = some (.data ty' 1 eB z l)) (r : awpL X all rest Q (s.put (some d) (.d (.str (cut o1 n l))))) : awpL X all (o :: rest) Q s := stepM hdst hd (m_b2sO X.ok hop hg hs hsd he hed hdt hdd hy hk) r
theorem stepS2B {src dst e : TypeId} {y : Operand} {sd dd : TyD} {l : List UInt8} (hop : o.op = .convert src dst y) (hdst : o.dst = some d) (hs : X.T src = some sd) (hsd : sd.desc = .string) (hdt : X.T dst = some dd) (hdd : dd.desc = .slice e) (he : X.T e = some ed) (hed : ed.desc = .int .u8) (hg : gd all s o = some true) (hd : dstOk X.N (some d) = true) (hy : s.opd y = .d (.str l)) (k : awpL X all rest Q (s.put (some d) (.d (.sl 1 eB 0 l)))) : awpL X all (o :: rest) Q s := stepM hdst hd (m_s2b X.ok hop hg hs hsd hdt hdd he hed hy) k
theorem stepAppF {t : TypeId} {c : Call} {x y : Operand} {e : TypeId} (hkk : Nat.beq (opK o.op) 3 = true) (hop : o.op = .call c) (hc : c = ⟨.builtin .append, #[x, y], #[t, t]⟩) (hdst : o.dst = some d) (hx : s.opd x = .d (.full d1)) (hg : gd all s o = some true) (hd : dstOk X.N (some d) = true) (ht : X.T t = some td) (hds : td.desc = .slice e) (he : X.T e = some ed) (hz : zeroOk ed = true) (hy : s.opd y = .d d2) (le2 : LeD d2 (.sl ed.size en z l2)) (le1 : LeD d1 (.sl ed.size en z l)) (hb : l.length + l2.length ≤ 9223372036854775807 ∧ (l.length + l2.length) * ed.bytes ≤ 140737488355328) (k : awpL X all rest Q (s.put (some d) (.d (.sl ed.size en z (l ++ l2))))) : awpL X all (o :: rest) Q s := stepM hdst hd (m_appF' hop hc hg ht hds he hx hz hy le2 le1 hb) k
end

/-! ## Ways out -/
section
variable {X : Ctx} {Q : Exit → St → Prop} {K : St → Prop} {s : St} {id n : Nat}
theorem thenN (h : K s) : andThen K Q .normal s := h
theorem thenX (h : Q (.exit n) s) : andThen K Q (.exit n) s := h
theorem thenR (h : Q .ret s) : andThen K Q .ret s := h
theorem inN (h : Q .normal s) : inBlock id Q .normal s := h
theorem inR (h : Q .ret s) : inBlock id Q .ret s := h
theorem inX (h : Q .normal s) : inBlock id Q (.exit id) s := by simp only [inBlock, Nat.beq_refl]; exact h
theorem inY (he : Nat.beq n id = false) (h : Q (.exit n) s) : inBlock id Q (.exit n) s := by simp only [inBlock, he]; exact h
end

/-- One operation that leaves memory as it is. -/
theorem mop {X : Ctx} {all : Array Oper} {s : St} {o : Oper} {x : V} (h : M1 X all s o x := by
  first
  | exact Go.Vw.m_q true rfl rfl Go.Vw.sc
  | exact Go.Vw.m_q false rfl rfl Go.Vw.sc
  | exact Go.Vw.m_off rfl
  | exact Go.Vw.m_lit (Go.Vw.Ctx.ok _) rfl rfl
  | fail) : M1 X all s o x := h

/-! ## The part of a drawn region whose order is open, then the rest -/

def awpR (X : Ctx) (all : Array Oper) (pre rest : List Oper) (Q : Exit → St → Prop) (s : St) : Prop := ∃ s1, MRun X all pre s s1 ∧ awpL X all rest Q s1

section
variable {X : Ctx} {all : Array Oper} {Q : Exit → St → Prop} {s : St} {o : Oper} {pre rest : List Oper}
theorem awpR_nil (h : awpL X all rest Q s) : awpR X all [] rest Q s := ⟨s, .nil, h⟩
theorem awpR_cons {x : V} {d : Tmp} (hdst : o.dst = some d) (hd : dstOk X.N (some d) = true) (h : M1 X all s o x) (k : awpR X all pre rest Q (s.put (some d) x)) : awpR X all (o :: pre) rest Q s := by
  rw [← hdst] at hd k
  obtain ⟨s1, h1, h2⟩ := k
  exact ⟨s1, .cons hd h h1, h2⟩
theorem put_self {s : St} {d : Tmp} {x : V} (h : s.tmps d = x) : s.put (some d) x = s := by
  have : (s.put (some d) x).tmps = s.tmps := by
    funext t
    simp only [St.put]
    cases hb : Nat.beq t d with
    | true => have := Nat.eq_of_beq_eq_true hb; subst this; simp [h]
    | false => rfl
  cases s
  simp only [St.put] at this ⊢
  rw [this]
theorem stepRQ {d : Tmp} {C : Prop} {x : V} (m : Bool) (hk : Nat.beq (opK o.op) 0 = true) (hg : gd all s o = some true) (hdst : o.dst = some d) (hd : dstOk X.N (some d) = true) (hq : evalF X.T m s o.op = some (C, x)) (hC : C) (k : awpR X all pre rest Q (s.put (some d) x)) : awpR X all (o :: pre) rest Q s := awpR_cons hdst hd (m_q m hg hq hC) k
theorem stepROff {d : Tmp} (hg : gd all s o = some false) (hdst : o.dst = some d) (hd : dstOk X.N (some d) = true) (k : awpR X all pre rest Q (s.put (some d) (.d (.tup [])))) : awpR X all (o :: pre) rest Q s := awpR_cons hdst hd (m_off hg) k
theorem stepRLit {d : Tmp} {e : TypeId} {sz len : Nat} {rows : List (List D)} (hkk : Nat.beq (opK o.op) 5 = true) (h : evalB X.T s o.op = some (e, sz, len, rows)) (hdst : o.dst = some d) (hg : gd all s o = some true) (hd : dstOk X.N (some d) = true) (k : awpR X all pre rest Q (s.put (some d) (.d (.sl sz (nth [] rows) 0 (iota len 0))))) : awpR X all (o :: pre) rest Q s := awpR_cons hdst hd (m_lit X.ok hg h) k
theorem stepRLitF {d : Tmp} {e : TypeId} {sz len : Nat} {rows : List (List D)} (hkk : Nat.beq (opK o.op) 5 = true) (hdst : o.dst = some d) (hla : (litApp d pre || litApp d rest) = true) (h : evalB X.T s o.op = some (e, sz, len, rows)) (hg : gd all s o = some true) (hd : dstOk X.N (some d) = true) (k : awpR X all pre rest Q (s.put (some d) (.d (.full (.sl sz (nth [] rows) 0 (iota len 0)))))) : awpR X all (o :: pre) rest Q s := awpR_cons hdst hd (m_litF X.ok hg h) k
theorem stepRB2S {d : Tmp} {src dst e : TypeId} {y : Operand} {sd ed dd : TyD} {l : List UInt8} {d1 : D} (hop : o.op = .convert src dst y) (hdst : o.dst = some d) (hs : X.T src = some sd) (hsd : sd.desc = .slice e) (hdt : X.T dst = some dd) (hdd : dd.desc = .string) (he : X.T e = some ed) (hed : ed.desc = .int .u8) (hg : gd all s o = some true) (hd : dstOk X.N (some d) = true) (hy : s.opd y = .d d1) (le : LeD d1 (.sl 1 eB 0 l)) (k : awpR X all pre rest Q (s.put (some d) (.d (.str l)))) : awpR X all (o :: pre) rest Q s := awpR_cons hdst hd (m_b2s X.ok hop hg hs hsd he hed hdt hdd hy le) k
theorem stepRB2SO {d : Tmp} {src dst e : TypeId} {y : Operand} {sd ed dd : TyD} {l : List UInt8} {k o1 n : Nat} {ty ty' : TypeId} {z : UInt8} (hop : o.op = .convert src dst y) (hdst : o.dst = some d) (hs : X.T src = some sd) (hsd : sd.desc = .slice e) (hdt : X.T dst = some dd) (hdd : dd.desc = .string) (he : X.T e = some ed) (hed : ed.desc = .int .u8) (hg : gd all s o = some true) (hd : dstOk X.N (some d) = true) (hy : s.opd y = .own k o1 n ty 1) (hk : s.blk k = some (.data ty' 1 eB z l)) (r : awpR X all pre rest Q (s.put (some d) (.d (.str (cut o1 n l))))) : awpR X all (o :: pre) rest Q s := awpR_cons hdst hd (m_b2sO X.ok hop hg hs hsd he hed hdt hdd hy hk) r
theorem stepRS2B {d : Tmp} {src dst e : TypeId} {y : Operand} {sd ed dd : TyD} {l : List UInt8} (hop : o.op = .convert src dst y) (hdst : o.dst = some d) (hs : X.T src = some sd) (hsd : sd.desc = .string) (hdt : X.T dst = some dd) (hdd : dd.desc = .slice e) (he : X.T e = some ed) (hed : ed.desc = .int .u8) (hg : gd all s o = some true) (hd : dstOk X.N (some d) = true) (hy : s.opd y = .d (.str l)) (k : awpR X all pre rest Q (s.put (some d) (.d (.sl 1 eB 0 l)))) : awpR X all (o :: pre) rest Q s := awpR_cons hdst hd (m_s2b X.ok hop hg hs hsd hdt hdd he hed hy) k
theorem stepRAppF {d : Tmp} {α : Type} {en : α → List D} {z : α} {l l2 : List α} {td ed : TyD} {d1 d2 : D} {t : TypeId} {c : Call} {x y : Operand} {e : TypeId} (hkk : Nat.beq (opK o.op) 3 = true) (hop : o.op = .call c) (hc : c = ⟨.builtin .append, #[x, y], #[t, t]⟩) (hdst : o.dst = some d) (hx : s.opd x = .d (.full d1)) (hg : gd all s o = some true) (hd : dstOk X.N (some d) = true) (ht : X.T t = some td) (hds : td.desc = .slice e) (he : X.T e = some ed) (hz : zeroOk ed = true) (hy : s.opd y = .d d2) (le2 : LeD d2 (.sl ed.size en z l2)) (le1 : LeD d1 (.sl ed.size en z l)) (hb : l.length + l2.length ≤ 9223372036854775807 ∧ (l.length + l2.length) * ed.bytes ≤ 140737488355328) (k : awpR X all pre rest Q (s.put (some d) (.d (.sl ed.size en z (l ++ l2))))) : awpR X all (o :: pre) rest Q s := awpR_cons hdst hd (m_appF' hop hc hg ht hds he hx hz hy le2 le1 hb) k
theorem awpR_guard {d : Tmp} {b : Bool} (hd : s.tmps d = .d (.bool b)) (h1 : b = true → awpR X all pre rest Q (s.put (some d) (.d (.bool true)))) (h2 : b = false → awpR X all pre rest Q (s.put (some d) (.d (.bool false)))) : awpR X all pre rest Q s := by
  cases b with
  | true => have := h1 rfl; rwa [put_self hd] at this
  | false => have := h2 rfl; rwa [put_self hd] at this
theorem awp_reg (id n : Nat) {ops : List Oper} (hm : X.P.follows .mixedOrders = true) (hok : monoOk ops.toArray n = true) (h : awpR X ops.toArray (ops.take n) (ops.drop n) Q s) : awp X (.region id ops.toArray true) Q s := by
  obtain ⟨s1, h1, h2⟩ := h
  exact awp_region_mono hm n hok h1 h2
end

/-! ## Guards that are open -/

def guardOf (all : Array Oper) (o : Oper) : Option Tmp := match o.guard with | none => none | some (g, _) => (all[g]?).bind (·.dst)

section
variable {X : Ctx} {all : Array Oper} {Q : Exit → St → Prop} {s : St} {o : Oper} {pre rest : List Oper} {d : Tmp}
theorem gdL {b : Bool} (hg : guardOf all o = some d) (hd : s.tmps d = .d (.bool b)) (h1 : b = true → awpL X all (o :: rest) Q (s.put (some d) (.d (.bool true)))) (h2 : b = false → awpL X all (o :: rest) Q (s.put (some d) (.d (.bool false)))) : awpL X all (o :: rest) Q s := awpL_guard hd h1 h2
theorem gdR {b : Bool} (hg : guardOf all o = some d) (hd : s.tmps d = .d (.bool b)) (h1 : b = true → awpR X all (o :: pre) rest Q (s.put (some d) (.d (.bool true)))) (h2 : b = false → awpR X all (o :: pre) rest Q (s.put (some d) (.d (.bool false)))) : awpR X all (o :: pre) rest Q s := awpR_guard hd h1 h2
end
section
variable {X : Ctx} {all : Array Oper} {Q : Exit → St → Prop} {s : St} {o : Oper} {pre rest : List Oper} {d : Tmp} {p : Prop} [Decidable p]
theorem gdLD (hg : guardOf all o = some d) (hd : s.tmps d = .d (.bool (decide p))) (h1 : p → awpL X all (o :: rest) Q (s.put (some d) (.d (.bool true)))) (h2 : ¬ p → awpL X all (o :: rest) Q (s.put (some d) (.d (.bool false)))) : awpL X all (o :: rest) Q s := awpL_guard hd (fun e => h1 (of_decide_eq_true e)) (fun e => h2 (of_decide_eq_false e))
theorem gdLN (hg : guardOf all o = some d) (hd : s.tmps d = .d (.bool (!decide p))) (h1 : ¬ p → awpL X all (o :: rest) Q (s.put (some d) (.d (.bool true)))) (h2 : p → awpL X all (o :: rest) Q (s.put (some d) (.d (.bool false)))) : awpL X all (o :: rest) Q s := awpL_guard hd (fun e => h1 (of_decide_eq_false (by simpa using e))) (fun e => h2 (of_decide_eq_true (by simpa using e)))
theorem gdRD (hg : guardOf all o = some d) (hd : s.tmps d = .d (.bool (decide p))) (h1 : p → awpR X all (o :: pre) rest Q (s.put (some d) (.d (.bool true)))) (h2 : ¬ p → awpR X all (o :: pre) rest Q (s.put (some d) (.d (.bool false)))) : awpR X all (o :: pre) rest Q s := awpR_guard hd (fun e => h1 (of_decide_eq_true e)) (fun e => h2 (of_decide_eq_false e))
theorem gdRN (hg : guardOf all o = some d) (hd : s.tmps d = .d (.bool (!decide p))) (h1 : ¬ p → awpR X all (o :: pre) rest Q (s.put (some d) (.d (.bool true)))) (h2 : p → awpR X all (o :: pre) rest Q (s.put (some d) (.d (.bool false)))) : awpR X all (o :: pre) rest Q s := awpR_guard hd (fun e => h1 (of_decide_eq_false (by simpa using e))) (fun e => h2 (of_decide_eq_true (by simpa using e)))
end
/-- A truth value, taken for what it says. -/
theorem byD {p q : Prop} [Decidable p] (h : p → q) : decide p = true → q := fun e => h (of_decide_eq_true e)
theorem byND {p q : Prop} [Decidable p] (h : ¬ p → q) : decide p = false → q := fun e => h (of_decide_eq_false e)
theorem byN {p q : Prop} [Decidable p] (h : ¬ p → q) : (!decide p) = true → q := fun e => h (of_decide_eq_false (by simpa using e))
theorem byNN {p q : Prop} [Decidable p] (h : p → q) : (!decide p) = false → q := fun e => h (of_decide_eq_true (by simpa using e))
theorem byTF {q : Prop} : true = false → q := fun e => by cases e
theorem byFT {q : Prop} : false = true → q := fun e => by cases e
theorem byTT {q : Prop} (h : q) : true = true → q := fun _ => h
theorem byFF {q : Prop} (h : q) : false = false → q := fun _ => h

/-- One step of the walk that leaves one goal. -/
theorem goL {G : Prop} {X : Ctx} {all : Array Oper} {ops : List Oper} {Q : Exit → St → Prop} {s : St} (k : G) (h : G → awpL X all ops Q s := by
  first
  | exact Go.Vw.stepQ true Go.Vw.tt Go.Vw.stt rfl rfl rfl Go.Vw.sc
  | exact Go.Vw.awpL_nil
  | exact Go.Vw.stepOff Go.Vw.sff rfl rfl
  | exact Go.Vw.stepStore Go.Vw.tt rfl rfl rfl rfl rfl rfl rfl rfl rfl Go.Vw.leL Go.Vw.sc
  | exact Go.Vw.stepStoreV Go.Vw.tt rfl rfl rfl rfl rfl rfl rfl rfl Go.Vw.sc
  | exact Go.Vw.stepAppF Go.Vw.tt rfl rfl rfl rfl rfl rfl rfl rfl rfl rfl rfl (Go.Vw.LeD.refl _) (Go.Vw.LeD.lit rfl (Go.Vw.LeR.cons rfl Go.Vw.leL Go.Vw.LeR.nil)) Go.Vw.sc
  | exact Go.Vw.stepApp Go.Vw.tt rfl rfl rfl rfl rfl rfl rfl rfl rfl rfl rfl rfl Go.Vw.sc Go.Vw.srcOk Go.Vw.sc
  | exact Go.Vw.stepAppNil Go.Vw.tt rfl rfl rfl rfl rfl rfl rfl rfl rfl rfl rfl Go.Vw.srcZ Go.Vw.sc
  | exact Go.Vw.stepE1 Go.Vw.tt rfl rfl rfl rfl rfl
  | exact Go.Vw.stepE0 Go.Vw.tt rfl rfl rfl
  | exact Go.Vw.stepLitF Go.Vw.tt rfl Go.Vw.tt rfl rfl rfl
  | exact Go.Vw.stepLit Go.Vw.tt rfl rfl rfl rfl
  | exact Go.Vw.stepMake (mm := true) (en := Go.Vw.eN .u32) (z := 0) Go.Vw.tt rfl rfl rfl rfl rfl rfl rfl rfl rfl rfl rfl rfl Go.Vw.leL Go.Vw.sc Go.Vw.sc
  | exact Go.Vw.stepMake (mm := false) (en := Go.Vw.eN .u32) (z := 0) Go.Vw.tt rfl rfl rfl rfl rfl rfl rfl rfl rfl rfl rfl rfl Go.Vw.leL Go.Vw.sc Go.Vw.sc
  | exact Go.Vw.stepMake (mm := true) (en := Go.Vw.eI .i64) (z := 0) Go.Vw.tt rfl rfl rfl rfl rfl rfl rfl rfl rfl rfl rfl rfl Go.Vw.leL Go.Vw.sc Go.Vw.sc
  | exact Go.Vw.stepMake (mm := false) (en := Go.Vw.eI .i64) (z := 0) Go.Vw.tt rfl rfl rfl rfl rfl rfl rfl rfl rfl rfl rfl rfl Go.Vw.leL Go.Vw.sc Go.Vw.sc
  | exact Go.Vw.stepQ false Go.Vw.tt Go.Vw.stt rfl rfl rfl Go.Vw.sc
  | exact Go.Vw.stepB2S rfl rfl rfl rfl rfl rfl rfl rfl rfl rfl rfl (Go.Vw.LeD.refl _)
  | exact Go.Vw.stepB2SO rfl rfl rfl rfl rfl rfl rfl rfl rfl rfl rfl rfl
  | exact Go.Vw.stepS2B rfl rfl rfl rfl rfl rfl rfl rfl rfl rfl rfl
  | exact Go.Vw.stepB2S rfl rfl rfl rfl rfl rfl rfl rfl rfl rfl rfl (Go.Vw.LeD.lit rfl (Go.Vw.LeR.cons rfl Go.Vw.leL Go.Vw.LeR.nil))
  | exact Go.Vw.stepM0 Go.Vw.tt rfl (Go.Vw.m_q true rfl rfl Go.Vw.sc)
  | fail) : awpL X all ops Q s := h k
theorem goR {G : Prop} {X : Ctx} {all : Array Oper} {ops rest : List Oper} {Q : Exit → St → Prop} {s : St} (k : G) (h : G → awpR X all ops rest Q s := by
  first
  | exact Go.Vw.stepRQ true Go.Vw.tt Go.Vw.stt rfl rfl rfl Go.Vw.sc
  | exact Go.Vw.awpR_nil
  | exact Go.Vw.stepROff Go.Vw.sff rfl rfl
  | exact Go.Vw.stepRLitF Go.Vw.tt rfl Go.Vw.tt rfl rfl rfl
  | exact Go.Vw.stepRAppF Go.Vw.tt rfl rfl rfl rfl rfl rfl rfl rfl rfl rfl rfl (Go.Vw.LeD.refl _) (Go.Vw.LeD.lit rfl (Go.Vw.LeR.cons rfl Go.Vw.leL Go.Vw.LeR.nil)) Go.Vw.sc
  | exact Go.Vw.stepRLit Go.Vw.tt rfl rfl rfl rfl
  | exact Go.Vw.stepRQ false Go.Vw.tt Go.Vw.stt rfl rfl rfl Go.Vw.sc
  | exact Go.Vw.stepRB2S rfl rfl rfl rfl rfl rfl rfl rfl rfl rfl rfl (Go.Vw.LeD.refl _)
  | exact Go.Vw.stepRB2SO rfl rfl rfl rfl rfl rfl rfl rfl rfl rfl rfl rfl
  | exact Go.Vw.stepRS2B rfl rfl rfl rfl rfl rfl rfl rfl rfl rfl rfl
  | exact Go.Vw.stepRB2S rfl rfl rfl rfl rfl rfl rfl rfl rfl rfl rfl (Go.Vw.LeD.lit rfl (Go.Vw.LeR.cons rfl Go.Vw.leL Go.Vw.LeR.nil))
  | fail) : awpR X all ops rest Q s := h k
theorem goA {G : Prop} {X : Ctx} {c : Code} {Q : Exit → St → Prop} {s : St} (k : G) (h : G → awp X c Q s := by
  first
  | exact Go.Vw.awp_seq
  | exact Go.Vw.awp_region
  | exact Go.Vw.awp_block
  | exact Go.Vw.awp_condT rfl
  | exact Go.Vw.awp_condF rfl
  | exact Go.Vw.awp_skip
  | exact Go.Vw.awp_exit
  | exact Go.Vw.awp_ret
  | fail) : awp X c Q s := h k
theorem goN {G : Prop} {K : St → Prop} {Q : Exit → St → Prop} {e : Exit} {s : St} (k : G) (h : G → andThen K Q e s := by
  first
  | exact Go.Vw.thenN
  | exact Go.Vw.thenX
  | exact Go.Vw.thenR
  | fail) : andThen K Q e s := h k
theorem goB {G : Prop} {id : Nat} {Q : Exit → St → Prop} {e : Exit} {s : St} (k : G) (h : G → inBlock id Q e s := by
  first
  | exact Go.Vw.inN
  | exact Go.Vw.inX
  | exact Go.Vw.inY rfl
  | exact Go.Vw.inR
  | fail) : inBlock id Q e s := h k

section
variable {X : Ctx} {all : Array Oper} {Q : Exit → St → Prop} {s : St} {o : Oper} {pre rest : List Oper} {c : Call} {caps : List V} {ds' : List D} {r : D}

/-- How the call's arguments stand for the contract's. -/
def CallM (X : Ctx) (all : Array Oper) (s : St) (o : Oper) (f : FuncId) (ds' : List D) (r : D) : Prop := Ret X.P f ds' (· = r) → M1 X all s o (.d r)
def CallE (X : Ctx) (all : Array Oper) (s s1 : St) (o : Oper) (f : FuncId) (ds' : List D) (r : D) : Prop := Ret X.P f ds' (· = r) → E1 X all s o (s1.put o.dst (.d r))

theorem callM_plain {f : FuncId} (hop : o.op = .call c) (hg : gd all s o = some true) (hc : calleeOf s c = some (f, caps)) (hk : (allD (c.args.toList.map s.opd ++ caps)).isSome = true) {ds : List D} (ha : allD (c.args.toList.map s.opd ++ caps) = some ds) (le : LeT ds ds') : CallM X all s o f ds' r := fun hr => m_callR hg hop hc ha le hr
theorem callM_lent {f : FuncId} (m : Bool) (hop : o.op = .call c) (hg : gd all s o = some true) (hc : calleeOf s c = some (f, caps)) (hk2 : (allD (c.args.toList.map s.opd ++ caps)).isSome = false) (hk : (V.asDs m s (c.args.toList.map s.opd ++ caps)).isSome = true) {C : Prop} {ds : List D} (ha : V.asDs m s (c.args.toList.map s.opd ++ caps) = some (C, ds)) (le : LeT ds ds') (hn : r.noRef = true) (hC : C) : CallM X all s o f ds' r := fun hr => m_callB hg hop hc m ha le hr hC hn
theorem callE_of {f : FuncId} (hd : dstOk X.N o.dst = true) (h : CallM X all s o f ds' r) : CallE X all s s o f ds' r := fun hr => (h hr).e1 hd
theorem callE_frz {f : FuncId} {s1 : St} (hop : o.op = .call c) (hc : calleeOf s c = some (f, caps)) (hkk : (ownKey (c.args.toList.map s.opd ++ caps)).isSome = true) {k : Nat} {b : Blk} (hk : ownKey (c.args.toList.map s.opd ++ caps) = some k) (hb : s.blk k = some b) (h : CallE X all (s.sub k (some b)) s1 o f ds' r) : CallE X all s s1 o f ds' r := fun hr => e_frz k hb (h hr)

def calleeIs (s : St) (op : Op) (f : FuncId) : Bool := match op with | .call c => (match calleeOf s c with | some (g, _) => Nat.beq g f | none => false) | _ => false
theorem cl {s1 : St} {d : Tmp} (f : FuncId) (hcf : calleeIs s o.op f = true) (hop : o.op = .call c) (hc : calleeOf s c = some (f, caps)) (hdst : o.dst = some d) (h : CallE X all s s1 o f ds' r := by
  first
  | exact Go.Vw.callE_of rfl (Go.Vw.callM_plain rfl rfl rfl Go.Vw.tt rfl Go.Vw.leT)
  | exact Go.Vw.callE_of rfl (Go.Vw.callM_lent true rfl rfl rfl Go.Vw.ff Go.Vw.tt rfl Go.Vw.leT rfl Go.Vw.sc)
  | exact Go.Vw.callE_of rfl (Go.Vw.callM_lent false rfl rfl rfl Go.Vw.ff Go.Vw.tt rfl Go.Vw.leT rfl Go.Vw.sc)
  | exact Go.Vw.callE_frz rfl rfl Go.Vw.tt rfl rfl (Go.Vw.callE_of rfl (Go.Vw.callM_plain rfl rfl rfl Go.Vw.tt rfl Go.Vw.leT))
  | exact Go.Vw.callE_frz rfl rfl Go.Vw.tt rfl rfl (Go.Vw.callE_frz rfl rfl Go.Vw.tt rfl rfl (Go.Vw.callE_of rfl (Go.Vw.callM_plain rfl rfl rfl Go.Vw.tt rfl Go.Vw.leT)))
  | fail) (hr : Ret X.P f ds' (· = r)) (k : awpL X all rest Q (s1.put (some d) (.d r))) : awpL X all (o :: rest) Q s := by
  rw [← hdst] at k
  exact awpL_step (h hr) k
theorem clR {d : Tmp} (f : FuncId) (hcf : calleeIs s o.op f = true) (hop : o.op = .call c) (hc : calleeOf s c = some (f, caps)) (hdst : o.dst = some d) (h : CallM X all s o f ds' r := by
  first
  | exact Go.Vw.callM_plain rfl rfl rfl Go.Vw.tt rfl Go.Vw.leT
  | exact Go.Vw.callM_lent true rfl rfl rfl Go.Vw.ff Go.Vw.tt rfl Go.Vw.leT rfl Go.Vw.sc
  | exact Go.Vw.callM_lent false rfl rfl rfl Go.Vw.ff Go.Vw.tt rfl Go.Vw.leT rfl Go.Vw.sc
  | fail) (hd : dstOk X.N (some d) = true := by exact rfl) (hr : Ret X.P f ds' (· = r)) (k : awpR X all pre rest Q (s.put (some d) (.d r))) : awpR X all (o :: pre) rest Q s :=
  awpR_cons hdst hd (h hr) k
end

/-- The end of a function: what it hands back. -/
theorem fin {T : TypeId → Option TyD} {fn : Func} {R : D → Prop} {s : St} (m : Bool) {C : Prop} {r : D} (hd : s.dfs = []) (h : resOf T m s fn.results.toList = some (C, r)) (hR : R r) (hC : C := by exact Go.Vw.sc) : retPost T fn R .ret s := ⟨hd, m, C, r, r, h, hC, LeD.refl _, hR⟩
section
variable {T : TypeId → Option TyD} {fn : Func} {x : D} {s : St} {C : Prop} {r : D}
theorem finE (m : Bool) (hd : s.dfs = []) (h : resOf T m s fn.results.toList = some (C, r)) (hC : C) (hR : r = x) : retPost T fn (fun y => y = x) .ret s := ⟨hd, m, C, r, x, h, hC, hR ▸ LeD.refl _, rfl⟩
theorem finLe (m : Bool) (hd : s.dfs = []) (h : resOf T m s fn.results.toList = some (C, r)) (hC : C) (hR : LeD r x) : retPost T fn (fun y => y = x) .ret s := ⟨hd, m, C, r, x, h, hC, hR, rfl⟩
/-- All of an own slice. -/
theorem finF (m : Bool) (hd : s.dfs = []) {sz : Nat} {α : Type} {e : α → List D} {z : α} {l l' : List α} (h : resOf T m s fn.results.toList = some (C, .sl sz e z (cut 0 l'.length l'))) (hC : C) (hR : l' = l) : retPost T fn (fun y => y = .sl sz e z l) .ret s := by
  subst hR; exact finLe m hd h hC LeD.full
/-- Several results; a struct. -/
theorem finT (m : Bool) (hd : s.dfs = []) {rs ys : List D} (h : resOf T m s fn.results.toList = some (C, .tup rs)) (hC : C) (hR : LeT rs ys) : retPost T fn (fun y => y = .tup ys) .ret s := finLe m hd h hC (LeD.tup hR)
theorem finA (m : Bool) (hd : s.dfs = []) {rs ys : List D} (h : resOf T m s fn.results.toList = some (C, .agg rs)) (hC : C) (hR : LeL rs ys) : retPost T fn (fun y => y = .agg ys) .ret s := finLe m hd h hC (LeD.agg hR)
/-- The nil slice for the empty list. -/
theorem finN (hd : s.dfs = []) (h : resOf T true s fn.results.toList = some (C, .nils)) (hC : C) {sz : Nat} {α : Type} {e : α → List D} {z : α} {l : List α} (hR : l = []) : retPost T fn (fun y => y = .sl sz e z l) .ret s := by
  subst hR; exact finLe true hd h hC LeD.nils
/-- A slice literal. -/
theorem finL (m : Bool) (hd : s.dfs = []) {sz n : Nat} {rows : List (List D)} (h : resOf T m s fn.results.toList = some (C, .sl sz (nth [] rows) 0 (iota n 0))) (hC : C) (hn : rows.length = n) {α : Type} {e : α → List D} {z : α} {l l' : List α} (hl : LeR sz rows e l') (hR : l' = l) : retPost T fn (fun y => y = .sl sz e z l) .ret s := by
  subst hR; exact finLe m hd h hC (LeD.lit hn hl)
end
end Go.Vw
