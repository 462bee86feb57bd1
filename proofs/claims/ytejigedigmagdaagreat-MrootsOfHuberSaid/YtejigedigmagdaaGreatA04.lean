/-
  Contracts of functions of the program, and the layer that they are walked with: VO Tab Limbs LimbsB VP VGo. Conditions: as each says.
-/
import Derived.KernelRfl
import Derived.Test.YtejigedigmagdaaGreatProg
import Derived.Test.YtejigedigmagdaaGreatA03
set_option linter.unnecessarySimpa false
/-
  The rules of the walk, their side conditions paid by themselves. Conditions: as each says.
-/
set_option linter.unusedSimpArgs false
set_option linter.unusedVariables false
set_option linter.unusedSectionVars false
namespace Go.Vw
open Go.RowKit

def forceV (C : Prop) : V → Ev V
  | .d y => some (C, .d y)
  | .own k o n ty sz => some (C, .own k o n ty sz)
  | .ptr k o => some (C, .ptr k o)
  | .eptr k sz i f => some (C, .eptr k sz i f)
  | .agg cs => some (C, .agg cs)
  | .tup cs => some (C, .tup cs)
  | .fn f cs => some (C, .fn f cs)
theorem forceV_eq (C : Prop) (x : V) : forceV C x = some (C, x) := by cases x <;> rfl
def evalF (T : TypeId → Option TyD) (m : Bool) (s : St) (op : Op) : Ev V :=
  match evalQ T m s op with
  | some (C, x) => forceV C x
  | none => none
theorem evalF_eq (T : TypeId → Option TyD) (m : Bool) (s : St) (op : Op) : evalF T m s op = evalQ T m s op := by
  unfold evalF
  split
  · rename_i C x h; rw [forceV_eq, h]
  · rename_i h; rw [h]

theorem le2 {α β : Type} {e : α × β → List D} {cs : List D} {a : α} {b : β} (h : LeL cs (e (a, b))) : LeL cs (e (a, b)) := h
theorem le3 {α β γ : Type} {e : α × β × γ → List D} {cs : List D} {a : α} {b : β} {c : γ} (h : LeL cs (e (a, b, c))) : LeL cs (e (a, b, c)) := h

@[reducible] def eI (k : IntKind) (x : Int) : List D := [.int k x]
@[reducible] def eN (k : IntKind) (x : Nat) : List D := [.int k (x : Int)]
@[reducible] def u32s (l : List Nat) : D := .sl 1 (eN .u32) 0 l
@[reducible] def i64s (l : List Int) : D := .sl 1 (eI .i64) 0 l
theorem leN {k : IntKind} {x : Int} (h : 0 ≤ x) : LeL [.int k x] (eN k x.toNat) := by
  rw [eN, Int.toNat_of_nonneg h]; exact LeL.refl _
theorem boolFits_of {dd : TyD} {b : Bool} (h : TypeDesc.isBool dd.desc = true) : boolFits dd (.bool b) := h
theorem iv {k : IntKind} {a b : Int} (h : a = b) : V.d (.int k a) = V.d (.int k b) := by rw [h]
theorem i64max : IntKind.i64.max = 9223372036854775807 := rfl
theorem sc {C : Prop} (h : C := by first | ((repeat' (first | exact trivial | apply And.intro | omega | exact Go.Vw.boolFits_of rfl | decide | with_reducible rfl | with_reducible assumption | (with_reducible show (_ : Nat) = _; exact rfl) | (simp only [IntKind.bits, Go.Vw.i64max, Go.Vw.plus0_eq, List.length_append, List.length_cons, List.length_nil, List.length_set, List.length_replicate, List.length_take, List.length_drop, List.length_map, List.length_range] <;> omega))); done) | fail) : C := h
theorem LeD.eqi {k : IntKind} {x y : Int} (h : x = y) : LeD (.int k x) (.int k y) := by subst h; exact LeD.refl _
theorem leEq {k : IntKind} {x : Int} {n : Nat} (h : x = (n : Int)) : LeL [.int k x] (eN k n) := by subst h; exact LeL.refl _
theorem leEqI {k : IntKind} {x y : Int} (h : x = y) : LeL [.int k x] (eI k y) := by subst h; exact LeL.refl _
theorem LeD.full {sz : Nat} {α : Type} {e : α → List D} {z : α} {l : List α} : LeD (.sl sz e z (cut 0 l.length l)) (.sl sz e z l) := by
  rw [cut_all]; exact LeD.refl _
theorem LeD.tk0 {sz n : Nat} {α : Type} {e : α → List D} {z : α} {l : List α} : LeD (.sl sz e z (cut 0 n l)) (.sl sz e z (l.take n)) := by
  rw [cut_zero]; exact LeD.refl _
theorem leB {x : Int} (h : 0 ≤ x ∧ x < 256) : LeL [.int .u8 x] (eB (UInt8.ofNat x.toNat)) := by
  have : ((UInt8.ofNat x.toNat).toNat : Int) = x := by
    rw [UInt8.toNat_ofNat']
    have : x.toNat % 2 ^ 8 = x.toNat := Nat.mod_eq_of_lt (by omega)
    rw [this]; omega
  rw [eB, this]; exact LeL.refl _
theorem LeD.cutAll {sz n : Nat} {α : Type} {e : α → List D} {z : α} {l : List α} (h : n = l.length) : LeD (.sl sz e z (cut 0 n l)) (.sl sz e z l) := by
  subst h; exact LeD.full
theorem leL {xs ys : List D} (h : LeL xs ys := by
  first
  | with_reducible exact Go.Vw.LeL.refl _
  | exact Go.Vw.leB (by omega)
  | exact Go.Vw.leN (by omega)
  | exact Go.Vw.LeL.refl _
  | exact Go.Vw.leEq (by omega)
  | exact Go.Vw.leEqI (by omega)
  | ((repeat' (first | exact Go.Vw.LeD.refl _ | exact Go.Vw.LeL.nil | apply Go.Vw.LeL.cons | exact Go.Vw.LeD.nils | apply Go.Vw.LeD.agg | exact Go.Vw.LeD.lit rfl Go.Vw.LeR.nil | (refine Go.Vw.LeD.lit rfl (Go.Vw.LeR.cons rfl ?_ ?_)) | exact Go.Vw.LeL.refl _ | exact Go.Vw.LeR.nil | (refine Go.Vw.LeR.cons rfl ?_ ?_))); done)
  | (refine Go.Vw.le3 ?_; (repeat' (first | exact Go.Vw.LeD.refl _ | exact Go.Vw.LeL.nil | apply Go.Vw.LeL.cons | exact Go.Vw.LeD.nils | apply Go.Vw.LeD.agg)); done)
  | (refine Go.Vw.le2 ?_; (repeat' (first | exact Go.Vw.LeD.refl _ | exact Go.Vw.LeL.nil | apply Go.Vw.LeL.cons | exact Go.Vw.LeD.nils | apply Go.Vw.LeD.agg)); done)
  | fail) : LeL xs ys := h
theorem leT {xs ys : List D} (h : LeT xs ys := by
  first
  | ((repeat' (first | exact Go.Vw.LeD.full | exact Go.Vw.LeD.tk0 | exact Go.Vw.LeD.cutAll Go.Vw.sc | exact Go.Vw.LeD.refl _ | exact Go.Vw.LeT.nil | exact Go.Vw.LeD.eqi (by omega) | apply Go.Vw.LeT.cons | exact Go.Vw.LeD.nils | (refine Go.Vw.LeD.agg ?_; exact Go.Vw.leL) | (refine Go.Vw.LeD.lit rfl ?_; repeat' (first | exact Go.Vw.LeR.nil | refine Go.Vw.LeR.cons rfl Go.Vw.leL ?_)) | (refine Go.Vw.LeD.fn ?_; exact Go.Vw.leL) | (refine Go.Vw.LeD.ptr ?_ _; exact Go.Vw.leL))); done)
  | fail) : LeT xs ys := h
theorem src_lit {X : Ctx} {s : St} {sz n : Nat} {α : Type} {e : α → List D} {rows : List (List D)} {a : α} {l : List α} (hn : rows.length = n) (h : LeR sz rows e (a :: l)) : SrcOk X s (.d (.sl sz (nth [] rows) 0 (iota n 0))) sz e (a :: l) := src_data (z := a) (LeD.lit hn h)
theorem srcOk {X : Ctx} {s : St} {y : V} {sz : Nat} {α : Type} {e : α → List D} {l : List α} (h : SrcOk X s y sz e l := by
  first
  | exact Go.Vw.src_data (Go.Vw.LeD.refl _)
  | exact Go.Vw.src_lit rfl (Go.Vw.LeR.cons rfl Go.Vw.leL Go.Vw.LeR.nil)
  | exact Go.Vw.src_lit rfl (Go.Vw.LeR.cons rfl Go.Vw.leL (Go.Vw.LeR.cons rfl Go.Vw.leL Go.Vw.LeR.nil))
  | exact Go.Vw.src_data Go.Vw.LeD.nils
  | exact Go.Vw.src_all rfl rfl
  | exact Go.Vw.src_own rfl
  | fail) : SrcOk X s y sz e l := h

theorem tt : true = true := rfl
theorem ff : false = false := rfl
theorem stt : some true = some true := rfl
theorem sff : some false = some false := rfl
def opK : Op → Nat
  | .store .. => 1
  | .alloc _ => 2
  | .box _ _ => 2
  | .call ⟨.builtin .append, _, _⟩ => 3
  | .call ⟨.builtin _, _, _⟩ => 0
  | .call _ => 6
  | .makeSlice .. => 4
  | .buildSlice .. => 5
  | _ => 0
section
variable {X : Ctx} {all : Array Oper} {s : St} {o : Oper}
theorem m_q (m : Bool) (hg : gd all s o = some true) {C : Prop} {x : V} (hq : evalF X.T m s o.op = some (C, x)) (hC : C) : M1 X all s o x := m_quiet X.ok m hg (by rw [evalF_eq] at hq; exact hq) hC
variable {Q : Exit → St → Prop} {rest : List Oper}
theorem stepM {x : V} {d : Tmp} (hdst : o.dst = some d) (hd : dstOk X.N (some d) = true) (h : M1 X all s o x) (k : awpL X all rest Q (s.put (some d) x)) : awpL X all (o :: rest) Q s := by
  rw [← hdst] at hd k; exact awpL_step (h.e1 hd) k
theorem stepQ {d : Tmp} {C : Prop} {x : V} (m : Bool) (hk : Nat.beq (opK o.op) 0 = true) (hg : gd all s o = some true) (hdst : o.dst = some d) (hd : dstOk X.N (some d) = true) (hq : evalF X.T m s o.op = some (C, x)) (hC : C) (k : awpL X all rest Q (s.put (some d) x)) : awpL X all (o :: rest) Q s := stepM hdst hd (m_q m hg hq hC) k
theorem stepOff {d : Tmp} (hg : gd all s o = some false) (hdst : o.dst = some d) (hd : dstOk X.N (some d) = true) (k : awpL X all rest Q (s.put (some d) (.d (.tup [])))) : awpL X all (o :: rest) Q s := stepM hdst hd (m_off hg) k
theorem stepM0 {x : V} (hk : Nat.beq (opK o.op) 0 = true) (hdst : o.dst = none) (h : M1 X all s o x) (k : awpL X all rest Q s) : awpL X all (o :: rest) Q s := by
  refine awpL_step (h.e1 (by rw [hdst]; rfl)) ?_; rw [hdst]; exact k
theorem stepE1 {s' : St} {x : V} {d : Tmp} (hkk : Nat.beq (opK o.op) 2 = true) (hdst : o.dst = some d) (hg : gd all s o = some true) (hd : dstOk X.N (some d) = true) (hK : X.K.contains d = false) (h : evalE X.T s (some d) o.op = some (some x, s')) (k : awpL X all rest Q (s'.put (some d) x)) : awpL X all (o :: rest) Q s := by
  obtain ⟨dst, op, ty, pos, after, g⟩ := o
  cases hdst
  exact awpL_step (e_eff X.ok hg hd (fun d' e => by cases e; exact hK) h) k
theorem stepE0 {s' : St} (hkk : Nat.beq (opK o.op) 1 = true) (hdst : o.dst = none) (hg : gd all s o = some true) (h : evalE X.T s none o.op = some (none, s')) (k : awpL X all rest Q s') : awpL X all (o :: rest) Q s := by
  obtain ⟨dst, op, ty, pos, after, g⟩ := o
  cases hdst
  exact awpL_step (e_eff X.ok hg rfl (fun d' e => by cases e) h) k
end

def SrcZ (X : Ctx) (s : St) (y : V) (sz : Nat) {α : Type} (e : α → List D) (z : α) (l : List α) : Prop := SrcOk X s y sz e l
theorem srcz_sl {X : Ctx} {s : St} {y : D} {sz : Nat} {α : Type} {e : α → List D} {z : α} {l : List α} (h : y = .sl sz e z l) : SrcZ X s (.d y) sz e z l := by
  subst h; exact src_data (LeD.refl _)
theorem srcz_lit {X : Ctx} {s : St} {y : D} {sz : Nat} {α : Type} [Inhabited α] {e : α → List D} {l : List α} (h : SrcOk X s (.d y) sz e l) : SrcZ X s (.d y) sz e default l := h
theorem srcz_all {X : Ctx} {s : St} {k n : Nat} {ty ty' : TypeId} {sz : Nat} {α : Type} {e : α → List D} {z : α} {l : List α} (hk : s.blk k = some (.data ty' sz e z l)) (hn : n = l.length) : SrcZ X s (.own k 0 n ty sz) sz e z l := src_all hk hn
theorem srcz_own {X : Ctx} {s : St} {k o n : Nat} {ty ty' : TypeId} {sz : Nat} {α : Type} {e : α → List D} {z : α} {l : List α} (hk : s.blk k = some (.data ty' sz e z l)) : SrcZ X s (.own k o n ty sz) sz e z (cut o n l) := src_own hk
theorem srcZ {X : Ctx} {s : St} {y : V} {sz : Nat} {α : Type} {e : α → List D} {z : α} {l : List α} (h : SrcZ X s y sz e z l := by
  first
  | exact Go.Vw.srcz_sl rfl
  | exact Go.Vw.srcz_lit (Go.Vw.src_lit rfl (Go.Vw.LeR.cons rfl Go.Vw.leL Go.Vw.LeR.nil))
  | exact Go.Vw.srcz_lit (Go.Vw.src_lit rfl (Go.Vw.LeR.cons rfl Go.Vw.leL (Go.Vw.LeR.cons rfl Go.Vw.leL Go.Vw.LeR.nil)))
  | exact Go.Vw.srcz_all rfl rfl
  | exact Go.Vw.srcz_own rfl
  | fail) : SrcZ X s y sz e z l := h
section
variable {X : Ctx} {all : Array Oper} {s : St} {o : Oper} {Q : Exit → St → Prop} {rest : List Oper} {d : Tmp} {α : Type} {en : α → List D} {z : α} {l : List α} {td ed : TyD}
theorem stepStore {t ety : TypeId} {addr x : Operand} {k sz i f : Nat} {y : D} {cs : List D} {a' : α} (hkk : Nat.beq (opK o.op) 1 = true) (hop : o.op = .store t addr x) (hdst : o.dst = none) (hg : gd all s o = some true) (ht : X.T t = some td) (ha : s.opd addr = .eptr k sz i f) (hk : s.blk k = some (.data ety sz en z l)) (hx : s.opd x = .d y) (hst : ((V.d y).storable && Nat.beq y.cells.length td.size) = true) (hp : putL (en (l.getD i z)) f y.cells = some cs) (hle : LeL cs (en a')) (hi : i < l.length) (r : awpL X all rest Q (s.withBlk k (.data ety sz en z (l.set i a')))) : awpL X all (o :: rest) Q s := by
  obtain ⟨dst, op, ty, pos, after, g⟩ := o
  cases hop; cases hdst
  exact awpL_step (e_store X.ok hg ht ha hk hx hst hp hle hi) r
theorem stepStoreV {t ety : TypeId} {addr x : Operand} {k i k2 o2 n2 : Nat} {ty2 : TypeId} {sz2 : Nat} (hkk : Nat.beq (opK o.op) 1 = true) (hop : o.op = .store t addr x) (hdst : o.dst = none) (hg : gd all s o = some true) (hx : s.opd x = .own k2 o2 n2 ty2 sz2) (ht : X.T t = some td) (ha : s.opd addr = .eptr k 1 i 0) (hk : s.blk k = some (.data ety 1 en z l)) (hsz : Nat.beq td.size 1 = true) (hi : i < l.length) (r : awpL X all rest Q (s.withBlk k (.hole ety 1 en z l i (.own k2 o2 n2 ty2 sz2)))) : awpL X all (o :: rest) Q s := by
  obtain ⟨dst, op, ty, pos, after, g⟩ := o
  cases hop; cases hdst
  exact awpL_step (e_storeV X.ok hg ht ha hk hx hsz hi) r
theorem stepApp {t : TypeId} {c : Call} {x y : Operand} {e : TypeId} {k n : Nat} {l2 : List α} (hkk : Nat.beq (opK o.op) 3 = true) (hop : o.op = .call c) (hc : c = ⟨.builtin .append, #[x, y], #[t, t]⟩) (hdst : o.dst = some d) (hg : gd all s o = some true) (hd : dstOk X.N (some d) = true) (ht : X.T t = some td) (hds : td.desc = .slice e) (he : X.T e = some ed) (hx : s.opd x = .own k 0 n e ed.size) (hK : X.K.contains k = false) (hk : s.blk k = some (.data e ed.size en z l)) (hz : zeroOk ed = true) (hn : n = l.length) (hy : SrcOk X s (s.opd y) ed.size en l2) (hb : l.length + l2.length ≤ 9223372036854775807 ∧ (l.length + l2.length) * ed.bytes ≤ 140737488355328) (r : awpL X all rest Q ((s.new k (.data e ed.size en z (l ++ l2))).put (some d) (.own k 0 (l ++ l2).length e ed.size))) : awpL X all (o :: rest) Q s := by
  obtain ⟨dst, op, ty, pos, after, g⟩ := o
  cases hop; cases hdst; subst hc
  exact awpL_step (e_append X.ok hg hd ht hds he hK hx hk hn hy hz hb) r
theorem stepAppNil {t : TypeId} {c : Call} {x y : Operand} {e : TypeId} {l2 : List α} (hkk : Nat.beq (opK o.op) 3 = true) (hop : o.op = .call c) (hc : c = ⟨.builtin .append, #[x, y], #[t, t]⟩) (hdst : o.dst = some d) (hg : gd all s o = some true) (hd : dstOk X.N (some d) = true) (ht : X.T t = some td) (hds : td.desc = .slice e) (he : X.T e = some ed) (hx : s.opd x = .d .nils) (hK : X.K.contains d = false) (hz : zeroOk ed = true) (hy : SrcZ X s (s.opd y) ed.size en z l2) (hb : l2.length ≤ 9223372036854775807 ∧ l2.length * ed.bytes ≤ 140737488355328) (r : awpL X all rest Q (((s.new d (.data e ed.size en z [])).new d (.data e ed.size en z l2)).put (some d) (.own d 0 l2.length e ed.size))) : awpL X all (o :: rest) Q s := by
  obtain ⟨dst, op, ty, pos, after, g⟩ := o
  cases hop; cases hdst; subst hc
  exact awpL_step (e_appnil X.ok hg hd ht hds he hK hx hy hz hb) r
theorem stepMake {mm : Bool} {t e : TypeId} {lo co : Operand} {n m : Int} {C : Prop} {j : Nat} (hkk : Nat.beq (opK o.op) 4 = true) (hop : o.op = .makeSlice t lo co) (hdst : o.dst = some d) (hg : gd all s o = some true) (hd : dstOk X.N (some d) = true) (hK : X.K.contains d = false) (ht : X.T t = some td) (hds : td.desc = .slice e) (he : X.T e = some ed) (hl : intOfV (s.opd lo) = some n) (hc : intOfV (s.opd co) = some m) (hn : natOf mm n = some (C, ⟨j⟩)) (hz : zeroOk ed = true) (le : LeL (D.ofV ed.zero).cells (en z)) (hC : C) (hb : n ≤ m ∧ m * ed.bytes ≤ 140737488355328 ∧ m ≤ 9223372036854775807) (r : awpL X all rest Q ((s.new d (.data e ed.size en z (List.replicate j z))).put (some d) (.own d 0 j e ed.size))) : awpL X all (o :: rest) Q s := by
  obtain ⟨dst, op, ty, pos, after, g⟩ := o
  cases hop; cases hdst
  exact awpL_step (e_make X.ok hg hd hK ht hds he hl hc hn hz le hC hb) r
theorem stepLit {e : TypeId} {sz len : Nat} {rows : List (List D)} (hkk : Nat.beq (opK o.op) 5 = true) (h : evalB X.T s o.op = some (e, sz, len, rows)) (hdst : o.dst = some d) (hg : gd all s o = some true) (hd : dstOk X.N (some d) = true) (k : awpL X all rest Q (s.put (some d) (.d (.sl sz (nth [] rows) 0 (iota len 0))))) : awpL X all (o :: rest) Q s := stepM hdst hd (m_lit X.ok hg h) k
end

def litApp (d : Tmp) : List Oper → Bool
  | [] => false
  | o :: r => match o.op with
    | .call ⟨.builtin .append, args, _⟩ => (match args.toList with | .tmp t :: _ => Nat.beq t d | _ => false) || litApp d r
    | _ => litApp d r
section
variable {X : Ctx} {all : Array Oper} {s : St} {o : Oper} {Q : Exit → St → Prop} {pre rest : List Oper} {d : Tmp} {α : Type} {en : α → List D} {z : α} {l l2 : List α} {td ed : TyD} {d1 d2 : D}
theorem stepLitF {e : TypeId} {sz len : Nat} {rows : List (List D)} (hkk : Nat.beq (opK o.op) 5 = true) (hdst : o.dst = some d) (hla : litApp d rest = true) (h : evalB X.T s o.op = some (e, sz, len, rows)) (hg : gd all s o = some true) (hd : dstOk X.N (some d) = true) (k : awpL X all rest Q (s.put (some d) (.d (.full (.sl sz (nth [] rows) 0 (iota len 0)))))) : awpL X all (o :: rest) Q s := stepM hdst hd (m_litF X.ok hg h) k
theorem m_appF' {t : TypeId} {c : Call} {x y : Operand} {e : TypeId} (hop : o.op = .call c) (hc : c = ⟨.builtin .append, #[x, y], #[t, t]⟩) (hg : gd all s o = some true) (ht : X.T t = some td) (hds : td.desc = .slice e) (he : X.T e = some ed) (hx : s.opd x = .d (.full d1)) (hz : zeroOk ed = true) (hy : s.opd y = .d d2) (le2 : LeD d2 (.sl ed.size en z l2)) (le1 : LeD d1 (.sl ed.size en z l)) (hb : l.length + l2.length ≤ 9223372036854775807 ∧ (l.length + l2.length) * ed.bytes ≤ 140737488355328) : M1 X all s o (.d (.sl ed.size en z (l ++ l2))) := by
  subst hc; exact m_appF X.ok hop hg ht hds he hx le1 hy le2 hz hb
theorem stepB2S {src dst e : TypeId} {y : Operand} {sd dd : TyD} {l : List UInt8} (hop : o.op = .convert src dst y) (hdst : o.dst = some d) (hs : X.T src = some sd) (hsd : sd.desc = .slice e) (hdt : X.T dst = some dd) (hdd : dd.desc = .string) (he : X.T e = some ed) (hed : ed.desc = .int .u8) (hg : gd all s o = some true) (hd : dstOk X.N (some d) = true) (hy : s.opd y = .d d1) (le : LeD d1 (.sl 1 eB 0 l)) (k : awpL X all rest Q (s.put (some d) (.d (.str l)))) : awpL X all (o :: rest) Q s := stepM hdst hd (m_b2s X.ok hop hg hs hsd he hed hdt hdd hy le) k
theorem stepB2SO {src dst e : TypeId} {y : Operand} {sd dd : TyD} {l : List UInt8} {k o1 n : Nat} {ty ty' : TypeId} {z : UInt8} (hop : o.op = .convert src dst y) (hdst : o.dst = some d) (hs : X.T src = some sd) (hsd : sd.desc = .slice e) (hdt : X.T dst = some dd) (hdd : dd.desc = .string) (he : X.T e = some ed) (hed : ed.desc = .int .u8) (hg : gd all s o = some true) (hd : dstOk X.N (some d) = true) (hy : s.opd y = .own k o1 n ty 1) (hk : s.blk k = some (.data ty' 1 eB z l)) (r : awpL X all rest Q (s.put (some d) (.d (.str (cut o1 n l))))) : awpL X all (o :: rest) Q s := stepM hdst hd (m_b2sO X.ok hop hg hs hsd he hed hdt hdd hy hk) r
theorem stepS2B {src dst e : TypeId} {y : Operand} {sd dd : TyD} {l : List UInt8} (hop : o.op = .convert src dst y) (hdst : o.dst = some d) (hs : X.T src = some sd) (hsd : sd.desc = .string) (hdt : X.T dst = some dd) (hdd : dd.desc = .slice e) (he : X.T e = some ed) (hed : ed.desc = .int .u8) (hg : gd all s o = some true) (hd : dstOk X.N (some d) = true) (hy : s.opd y = .d (.str l)) (k : awpL X all rest Q (s.put (some d) (.d (.sl 1 eB 0 l)))) : awpL X all (o :: rest) Q s := stepM hdst hd (m_s2b X.ok hop hg hs hsd hdt hdd he hed hy) k
theorem stepAppF {t : TypeId} {c : Call} {x y : Operand} {e : TypeId} (hkk : Nat.beq (opK o.op) 3 = true) (hop : o.op = .call c) (hc : c = ⟨.builtin .append, #[x, y], #[t, t]⟩) (hdst : o.dst = some d) (hx : s.opd x = .d (.full d1)) (hg : gd all s o = some true) (hd : dstOk X.N (some d) = true) (ht : X.T t = some td) (hds : td.desc = .slice e) (he : X.T e = some ed) (hz : zeroOk ed = true) (hy : s.opd y = .d d2) (le2 : LeD d2 (.sl ed.size en z l2)) (le1 : LeD d1 (.sl ed.size en z l)) (hb : l.length + l2.length ≤ 9223372036854775807 ∧ (l.length + l2.length) * ed.bytes ≤ 140737488355328) (k : awpL X all rest Q (s.put (some d) (.d (.sl ed.size en z (l ++ l2))))) : awpL X all (o :: rest) Q s := stepM hdst hd (m_appF' hop hc hg ht hds he hx hz hy le2 le1 hb) k
end

/-! ## Ways out -/
section
variable {X : Ctx} {Q : Exit → St → Prop} {K : St → Prop} {s : St} {id n : Nat}
theorem thenN (h : K s) : andThen K Q .normal s := h
theorem thenX (h : Q (.exit n) s) : andThen K Q (.exit n) s := h
theorem thenR (h : Q .ret s) : andThen K Q .ret s := h
theorem inN (h : Q .normal s) : inBlock id Q .normal s := h
theorem inR (h : Q .ret s) : inBlock id Q .ret s := h
theorem inX (h : Q .normal s) : inBlock id Q (.exit id) s := by simp only [inBlock, Nat.beq_refl]; exact h
theorem inY (he : Nat.beq n id = false) (h : Q (.exit n) s) : inBlock id Q (.exit n) s := by simp only [inBlock, he]; exact h
end

/-! ## The part of a drawn region whose order is open, then the rest -/

def awpR (ex : Bool) (X : Ctx) (all : Array Oper) (pre rest : List Oper) (Q : Exit → St → Prop) (s : St) : Prop := ∃ s1, PRun ex X all pre s s1 ∧ awpL X all rest Q s1

section
variable {ex : Bool} {X : Ctx} {all : Array Oper} {Q : Exit → St → Prop} {s : St} {o : Oper} {pre rest : List Oper}
theorem awpR_nil (h : awpL X all rest Q s) : awpR ex X all [] rest Q s := ⟨s, .nil, h⟩
theorem isMove_no (h : regOp o.op = false) : isMove o = false := by
  unfold isMove
  rw [h]; rfl
theorem isAlloc_no (h : ∀ e, o.op ≠ .alloc e) : isAlloc o = false := by
  unfold isAlloc
  split
  · rename_i e h1; exact absurd h1 (h e)
  · rfl
theorem isMove_off (h : gd all s o = some false) : isMove o = false := by
  unfold isMove
  have : o.guard ≠ none := fun e => by unfold gd at h; rw [e] at h; cases h
  cases hg : o.guard with
  | none => exact absurd hg this
  | some p => simp
theorem regOp_k {op : Op} (h : regOp op = true) : opK op = 0 := by
  cases op with
  | call c =>
    obtain ⟨cal, args, tys⟩ := c
    cases cal with
    | builtin b => cases b <;> first | rfl | cases h
    | value f => cases h
    | invoke r m => cases h
  | _ => first | rfl | cases h
theorem isMove_k {n : Nat} (h : Nat.beq (opK o.op) n = true) (hn : n ≠ 0) : isMove o = false := isMove_no (by
  have hk := Nat.eq_of_beq_eq_true h
  cases hr : regOp o.op with
  | false => rfl
  | true => rw [regOp_k hr] at hk; exact absurd hk.symm hn)
theorem isMove_call {c : Call} (h : o.op = .call c) (hb : regOp (.call c) = false) : isMove o = false := isMove_no (by rw [h]; exact hb)
theorem callee_reg {c : Call} {x : FuncId × List V} (h : calleeOf s c = some x) : regOp (.call c) = false := by
  unfold calleeOf at h
  unfold regOp
  split at h
  · rename_i y e; simp only [e]
  · cases h
theorem isMove_conv {a b : TypeId} {x : Operand} (h : o.op = .convert a b x) : isMove o = false := isMove_no (by rw [h]; rfl)
theorem isLoad_k {n : Nat} (h : Nat.beq (opK o.op) n = true) (hn : n ≠ 0) : isLoad o = false := by
  unfold isLoad
  have hk := Nat.eq_of_beq_eq_true h
  revert hk
  cases o.op <;> intro hk <;> first | rfl | exact absurd hk.symm hn
theorem isLoad_call {c : Call} (h : o.op = .call c) : isLoad o = false := by unfold isLoad; rw [h]; rfl
theorem isLoad_conv {a b : TypeId} {x : Operand} (h : o.op = .convert a b x) : isLoad o = false := by unfold isLoad; rw [h]; rfl
theorem isLoad_off (h : gd all s o = some false) : isLoad o = false := by
  unfold isLoad
  have : o.guard ≠ none := fun e => by unfold gd at h; rw [e] at h; cases h
  cases hg : o.guard with
  | none => exact absurd hg this
  | some p => simp
theorem chkLd_not {k : Option Nat} (h : isLoad o = false) : chkLd all k o = true := by unfold chkLd; rw [h]; rfl
theorem isAlloc_k {n : Nat} (h : Nat.beq (opK o.op) n = true) (hn : n ≠ 2) : isAlloc o = false := isAlloc_no fun y e => by rw [e] at h; exact hn (Nat.eq_of_beq_eq_true h).symm
theorem isAlloc_call {c : Call} (h : o.op = .call c) : isAlloc o = false := isAlloc_no fun y e => by rw [h] at e; cases e
theorem isAlloc_conv {a b : TypeId} {x : Operand} (h : o.op = .convert a b x) : isAlloc o = false := isAlloc_no fun y e => by rw [h] at e; cases e
theorem awpR_cons {x : D} {d : Tmp} (hn : isMove o = false) (hna : isAlloc o = false) (hnl : isLoad o = false) (hdst : o.dst = some d) (hd : dstOk X.N (some d) = true) (h : M1 X all s o (.d x)) (k : awpR ex X all pre rest Q (s.put (some d) (.d x))) : awpR ex X all (o :: pre) rest Q s := by
  rw [← hdst] at hd k
  obtain ⟨s1, h1, h2⟩ := k
  exact ⟨s1, .cons hd h (fun hm => by rw [hn] at hm; cases hm) hna rfl (fun hm => by rw [hnl] at hm; cases hm) (fun _ => chkLd_not hnl) h1, h2⟩
theorem opd_agree {s' : St} {y : Operand} (hy : y ∈ o.op.operands.toList) (h : ∀ t ∈ o.looksAt all, s'.tmps t = s.tmps t) : s'.opd y = s.opd y := by
  cases y with
  | tmp t => exact h t (by unfold Oper.looksAt; rw [List.mem_append]; left; rw [List.mem_filterMap]; exact ⟨_, hy, rfl⟩)
  | const v => rfl
  | global g => rfl
  | func f => rfl
theorem gd_agree {s' : St} (h : ∀ t ∈ o.looksAt all, s'.tmps t = s.tmps t) : gd all s' o = gd all s o := by
  unfold gd
  cases hg : o.guard with
  | none => rfl
  | some p =>
    obtain ⟨g, want⟩ := p
    simp only
    cases hd : (all[g]?).bind (·.dst) with
    | none => rfl
    | some d => simp only [h d (by unfold Oper.looksAt; rw [List.mem_append]; right; simp [hg, hd])]
theorem evalQ_move {T : TypeId → Option TyD} {m : Bool} {s' : St} (hm : isMove o = true) (h : ∀ t ∈ o.looksAt all, s'.tmps t = s.tmps t) : evalQ T m s' o.op = evalQ T m s o.op := by
  have hop := fun y hy => opd_agree (s := s) (s' := s') (o := o) (all := all) (y := y) hy h
  unfold isMove at hm
  rw [Bool.and_eq_true] at hm
  have hr := hm.1
  unfold regOp at hr
  split at hr
  · rename_i y e; rw [e] at hop ⊢; simp only [evalQ, hop y (by simp [Op.operands])]
  · rename_i y e; rw [e] at hop ⊢; simp only [evalQ, hop y (by simp [Op.operands])]
  · rename_i y i e; rw [e] at hop ⊢; simp only [evalQ, hop y (by simp [Op.operands])]
  · rename_i a b x y c e; rw [e] at hop ⊢; simp only [evalQ, hop x (by simp [Op.operands]), hop y (by simp [Op.operands])]
  · rename_i t x i e; rw [e] at hop ⊢; simp only [evalQ, hop x (by simp [Op.operands]), hop i (by simp [Op.operands])]
  · rename_i t x f e; rw [e] at hop ⊢; simp only [evalQ, hop x (by simp [Op.operands])]
  · rename_i x e; rw [e] at hop ⊢; simp only [evalQ, hop x (by simp [Op.operands])]
  · rename_i c e
    rw [e] at hop ⊢
    obtain ⟨cal, args, tys⟩ := c
    cases cal with
    | builtin b =>
      have h2 : ∀ y ∈ args.toList, s'.opd y = s.opd y := fun y hy => hop y (by simp only [Op.operands, Call.operands]; simpa using hy)
      simp only [evalQ]
      cases hl : args.toList with
      | nil => cases b <;> cases tys[0]? <;> rfl
      | cons x t => cases t with
        | nil => cases b <;> cases tys[0]? <;> first | rfl | (dsimp only; rw [h2 x (by rw [hl]; simp)])
        | cons y u => cases u with
          | nil => cases b <;> cases tys[0]? <;> first | rfl | (dsimp only; rw [h2 x (by rw [hl]; simp), h2 y (by rw [hl]; simp)])
          | cons z u => cases b <;> cases tys[0]? <;> rfl
    | value f => rfl
    | invoke r m => rfl
  · cases hr
theorem evalQ_load {T : TypeId → Option TyD} {m : Bool} {s' : St} {r : Prop × V} (hm : isLoad o = true) (hq : evalQ T m s o.op = some r) (h : ∀ t ∈ o.looksAt all, s'.tmps t = s.tmps t) (hb : ∀ k b, keyOf s o = some k → s.blk k = some b → s'.blk k = some b) : evalQ T m s' o.op = some r := by
  have hop := fun y hy => opd_agree (s := s) (s' := s') (o := o) (all := all) (y := y) hy h
  unfold isLoad at hm
  rw [Bool.and_eq_true] at hm
  have hr := hm.1
  split at hr
  · rename_i t y e
    unfold keyOf at hb
    rw [e] at hop hq hb ⊢
    simp only [evalQ, hop y (by simp [Op.operands])] at hq hb ⊢
    cases hT : T t with
    | none => rw [hT] at hq; cases hq
    | some td =>
      rw [hT] at hq
      cases hy : s.opd y with
      | ptr k o1 =>
        rw [hy] at hq hb
        cases hk : s.blk k with
        | none => simp only [hk] at hq; cases hq
        | some b => simp only [hb k b rfl hk]; simp only [hk] at hq; exact hq
      | eptr k sz i o1 =>
        rw [hy] at hq hb
        cases hk : s.blk k with
        | none => simp only [hk] at hq; cases hq
        | some b => simp only [hb k b rfl hk]; simp only [hk] at hq; exact hq
      | d x => rw [hy] at hq; cases x <;> first | exact hq | cases hq
      | _ => rw [hy] at hq; cases hq
  · cases hr
theorem awpR_consQ {x : V} {d : Tmp} (m : Bool) {C : Prop} (hg : gd all s o = some true) (hq : evalF X.T m s o.op = some (C, x)) (hC : C) (hf : chkV all x = true) (hx : (!ex || chkLd all (keyOf s o) o) = true) (hdst : o.dst = some d) (hd : dstOk X.N (some d) = true) (k : awpR ex X all pre rest Q (s.put (some d) x)) : awpR ex X all (o :: pre) rest Q s := by
  rw [← hdst] at hd k
  obtain ⟨s1, h1, h2⟩ := k
  refine ⟨s1, .cons hd (m_q m hg hq hC) (fun hm s' hs' => m_q m ((gd_agree hs').trans hg) ?_ hC) (isAlloc_no fun e he => ?_) hf (fun hm s' hs' hb => m_q m ((gd_agree hs').trans hg) ?_ hC) (fun e => by subst e; simpa using hx) h1, h2⟩
  · rw [evalF_eq] at hq ⊢
    rw [evalQ_move hm hs']; exact hq
  · rw [evalF_eq, he] at hq
    simp only [evalQ] at hq
    cases hq
  · rw [evalF_eq] at hq ⊢
    exact evalQ_load hm hq hs' hb
theorem awpR_store {k : Nat} {b b0 : Blk} (hs : isStore o = true) (hdst : o.dst = none) (hk : s.blk k = some b0) (hl : b.ln = b0.ln) (hkk : chkK all o k = true) (hf : chkB all b = true) (h : S1 X all s o k b) (hx : (!ex || chkSt all o k) = true) (kk : awpR ex X all pre rest Q (s.withBlk k b)) : awpR ex X all (o :: pre) rest Q s := by
  obtain ⟨s1, h1, h2⟩ := kk
  exact ⟨s1, .store hs hdst hk hl hkk hf h (fun e => by subst e; simpa using hx) h1, h2⟩
theorem stepRStore {α : Type} {en : α → List D} {z : α} {l : List α} {td : TyD} {t ety : TypeId} {addr x : Operand} {k sz i f : Nat} {y : D} {cs : List D} {a' : α} (hkk : Nat.beq (opK o.op) 1 = true) (hop : o.op = .store t addr x) (hdst : o.dst = none) (hg : gd all s o = some true) (ht : X.T t = some td) (ha : s.opd addr = .eptr k sz i f) (hk : s.blk k = some (.data ety sz en z l)) (hx : s.opd x = .d y) (hst : ((V.d y).storable && Nat.beq y.cells.length td.size) = true) (hp : putL (en (l.getD i z)) f y.cells = some cs) (hle : LeL cs (en a')) (hi : i < l.length) (hck : chkK all o k = true) (hxx : (!ex || chkSt all o k) = true) (r : awpR ex X all pre rest Q (s.withBlk k (.data ety sz en z (l.set i a')))) : awpR ex X all (o :: pre) rest Q s := by
  obtain ⟨dst, op, ty, pos, after, g⟩ := o
  cases hop; cases hdst
  refine awpR_store rfl rfl hk (by simp only [Blk.ln, List.length_set]) hck rfl (fun s' hb _ htm => ?_) hxx r
  exact e_store X.ok ((gd_agree htm).trans hg) ht ((opd_agree (by simp [Op.operands]) htm).trans ha) (hb.bl _ _ hk) ((opd_agree (by simp [Op.operands]) htm).trans hx) hst hp hle hi
theorem stepRStoreB {td : TyD} {t ety : TypeId} {addr x : Operand} {k i : Nat} {cs cs' : List V} {xv : V} (hkk : Nat.beq (opK o.op) 1 = true) (hop : o.op = .store t addr x) (hdst : o.dst = none) (hg : gd all s o = some true) (ht : X.T t = some td) (ha : s.opd addr = .ptr k i) (hk : s.blk k = some (.box ety cs)) (hx : s.opd x = xv) (hst : (xv.storable && Nat.beq xv.cells.length td.size) = true) (hp : putL cs i xv.cells = some cs') (hck : chkK all o k = true) (hf : chkB all (.box ety cs') = true) (hxx : (!ex || chkSt all o k) = true) (r : awpR ex X all pre rest Q (s.withBlk k (.box ety cs'))) : awpR ex X all (o :: pre) rest Q s := by
  obtain ⟨dst, op, ty, pos, after, g⟩ := o
  cases hop; cases hdst
  refine awpR_store (b := .box ety cs') rfl rfl hk rfl hck hf (fun s' hb _ htm => ?_) hxx r
  have h1 : s'.opd addr = .ptr k i := (opd_agree (o := ⟨none, .store t addr x, ty, pos, after, g⟩) (all := all) (by simp [Op.operands]) htm).trans ha
  have h2 : s'.opd x = xv := (opd_agree (o := ⟨none, .store t addr x, ty, pos, after, g⟩) (all := all) (by simp [Op.operands]) htm).trans hx
  have he : evalE X.T s' none (.store t addr x) = some (none, s'.withBlk k (.box ety cs')) := by
    simp only [evalE, ht, h1, hb.bl _ _ hk, h2, hst, hp]
  exact e_eff X.ok ((gd_agree htm).trans hg) rfl (fun d e => by cases e) he
theorem stepRAlloc {d : Tmp} {e : TypeId} {ed : TyD} (hkk : Nat.beq (opK o.op) 2 = true) (hop : o.op = .alloc e) (hdst : o.dst = some d) (hgn : o.guard = none) (he : X.T e = some ed) (hst : (V.d (D.ofV ed.zero)).storable = true) (hn : s.blk d = none) (hd : dstOk X.N (some d) = true) (hK : X.K.contains d = false) (hf : chkB all (.box e (V.d (D.ofV ed.zero)).cells) = true) (r : awpR ex X all pre rest Q ((s.withBlk d (.box e (V.d (D.ofV ed.zero)).cells)).put (some d) (.ptr d 0))) : awpR ex X all (o :: pre) rest Q s := by
  obtain ⟨dst, op, ty, pos, after, g⟩ := o
  cases hop; cases hdst; cases hgn
  obtain ⟨s1, h1, h2⟩ := r
  refine ⟨s1, .alloc rfl rfl hn rfl hf (fun s' hs' => ?_) h1, h2⟩
  have hev : evalE X.T s' (some d) (.alloc e) = some (some (.ptr d 0), s'.new d (.box e (V.d (D.ofV ed.zero)).cells)) := by
    simp only [evalE, he, hst]
  have hnew : s'.new d (.box e (V.d (D.ofV ed.zero)).cells) = s'.withBlk d (.box e (V.d (D.ofV ed.zero)).cells) := by unfold St.new; rw [hs'.sub]
  rw [← hnew]
  exact e_eff X.ok (all := all) (o := ⟨some d, .alloc e, ty, pos, after, none⟩) (s := s') rfl hd (fun d' e => by cases e; exact hK) hev
theorem put_self {s : St} {d : Tmp} {x : V} (h : s.tmps d = x) : s.put (some d) x = s := by
  have : (s.put (some d) x).tmps = s.tmps := by
    funext t
    simp only [St.put]
    cases hb : Nat.beq t d with
    | true => have := Nat.eq_of_beq_eq_true hb; subst this; simp [h]
    | false => rfl
  cases s
  simp only [St.put] at this ⊢
  rw [this]
theorem stepRQ {d : Tmp} {C : Prop} {x : V} (m : Bool) (hk : Nat.beq (opK o.op) 0 = true) (hg : gd all s o = some true) (hdst : o.dst = some d) (hd : dstOk X.N (some d) = true) (hq : evalF X.T m s o.op = some (C, x)) (hC : C) (hf : chkV all x = true) (hx : (!ex || chkLd all (keyOf s o) o) = true) (k : awpR ex X all pre rest Q (s.put (some d) x)) : awpR ex X all (o :: pre) rest Q s := awpR_consQ m hg hq hC hf hx hdst hd k
theorem stepROff {d : Tmp} (hg : gd all s o = some false) (hdst : o.dst = some d) (hd : dstOk X.N (some d) = true) (hna : isAlloc o = false) (k : awpR ex X all pre rest Q (s.put (some d) (.d (.tup [])))) : awpR ex X all (o :: pre) rest Q s := awpR_cons (isMove_off hg) hna (isLoad_off hg) hdst hd (m_off hg) k
theorem stepRLit {d : Tmp} {e : TypeId} {sz len : Nat} {rows : List (List D)} (hkk : Nat.beq (opK o.op) 5 = true) (h : evalB X.T s o.op = some (e, sz, len, rows)) (hdst : o.dst = some d) (hg : gd all s o = some true) (hd : dstOk X.N (some d) = true) (k : awpR ex X all pre rest Q (s.put (some d) (.d (.sl sz (nth [] rows) 0 (iota len 0))))) : awpR ex X all (o :: pre) rest Q s := awpR_cons (isMove_k hkk (by decide)) (isAlloc_k hkk (by decide)) (isLoad_k hkk (by decide)) hdst hd (m_lit X.ok hg h) k
theorem stepRLitF {d : Tmp} {e : TypeId} {sz len : Nat} {rows : List (List D)} (hkk : Nat.beq (opK o.op) 5 = true) (hdst : o.dst = some d) (hla : (litApp d pre || litApp d rest) = true) (h : evalB X.T s o.op = some (e, sz, len, rows)) (hg : gd all s o = some true) (hd : dstOk X.N (some d) = true) (k : awpR ex X all pre rest Q (s.put (some d) (.d (.full (.sl sz (nth [] rows) 0 (iota len 0)))))) : awpR ex X all (o :: pre) rest Q s := awpR_cons (isMove_k hkk (by decide)) (isAlloc_k hkk (by decide)) (isLoad_k hkk (by decide)) hdst hd (m_litF X.ok hg h) k
theorem stepRB2S {d : Tmp} {src dst e : TypeId} {y : Operand} {sd ed dd : TyD} {l : List UInt8} {d1 : D} (hop : o.op = .convert src dst y) (hdst : o.dst = some d) (hs : X.T src = some sd) (hsd : sd.desc = .slice e) (hdt : X.T dst = some dd) (hdd : dd.desc = .string) (he : X.T e = some ed) (hed : ed.desc = .int .u8) (hg : gd all s o = some true) (hd : dstOk X.N (some d) = true) (hy : s.opd y = .d d1) (le : LeD d1 (.sl 1 eB 0 l)) (k : awpR ex X all pre rest Q (s.put (some d) (.d (.str l)))) : awpR ex X all (o :: pre) rest Q s := awpR_cons (isMove_conv hop) (isAlloc_conv hop) (isLoad_conv hop) hdst hd (m_b2s X.ok hop hg hs hsd he hed hdt hdd hy le) k
theorem stepRB2SO {d : Tmp} {src dst e : TypeId} {y : Operand} {sd ed dd : TyD} {l : List UInt8} {k o1 n : Nat} {ty ty' : TypeId} {z : UInt8} (hop : o.op = .convert src dst y) (hdst : o.dst = some d) (hs : X.T src = some sd) (hsd : sd.desc = .slice e) (hdt : X.T dst = some dd) (hdd : dd.desc = .string) (he : X.T e = some ed) (hed : ed.desc = .int .u8) (hg : gd all s o = some true) (hd : dstOk X.N (some d) = true) (hy : s.opd y = .own k o1 n ty 1) (hk : s.blk k = some (.data ty' 1 eB z l)) (r : awpR ex X all pre rest Q (s.put (some d) (.d (.str (cut o1 n l))))) : awpR ex X all (o :: pre) rest Q s := awpR_cons (isMove_conv hop) (isAlloc_conv hop) (isLoad_conv hop) hdst hd (m_b2sO X.ok hop hg hs hsd he hed hdt hdd hy hk) r
theorem stepRS2B {d : Tmp} {src dst e : TypeId} {y : Operand} {sd ed dd : TyD} {l : List UInt8} (hop : o.op = .convert src dst y) (hdst : o.dst = some d) (hs : X.T src = some sd) (hsd : sd.desc = .string) (hdt : X.T dst = some dd) (hdd : dd.desc = .slice e) (he : X.T e = some ed) (hed : ed.desc = .int .u8) (hg : gd all s o = some true) (hd : dstOk X.N (some d) = true) (hy : s.opd y = .d (.str l)) (k : awpR ex X all pre rest Q (s.put (some d) (.d (.sl 1 eB 0 l)))) : awpR ex X all (o :: pre) rest Q s := awpR_cons (isMove_conv hop) (isAlloc_conv hop) (isLoad_conv hop) hdst hd (m_s2b X.ok hop hg hs hsd hdt hdd he hed hy) k
theorem stepRAppF {d : Tmp} {α : Type} {en : α → List D} {z : α} {l l2 : List α} {td ed : TyD} {d1 d2 : D} {t : TypeId} {c : Call} {x y : Operand} {e : TypeId} (hkk : Nat.beq (opK o.op) 3 = true) (hop : o.op = .call c) (hc : c = ⟨.builtin .append, #[x, y], #[t, t]⟩) (hdst : o.dst = some d) (hx : s.opd x = .d (.full d1)) (hg : gd all s o = some true) (hd : dstOk X.N (some d) = true) (ht : X.T t = some td) (hds : td.desc = .slice e) (he : X.T e = some ed) (hz : zeroOk ed = true) (hy : s.opd y = .d d2) (le2 : LeD d2 (.sl ed.size en z l2)) (le1 : LeD d1 (.sl ed.size en z l)) (hb : l.length + l2.length ≤ 9223372036854775807 ∧ (l.length + l2.length) * ed.bytes ≤ 140737488355328) (k : awpR ex X all pre rest Q (s.put (some d) (.d (.sl ed.size en z (l ++ l2))))) : awpR ex X all (o :: pre) rest Q s := awpR_cons (isMove_call hop (by rw [hc]; rfl)) (isAlloc_call hop) (isLoad_call hop) hdst hd (m_appF' hop hc hg ht hds he hx hz hy le2 le1 hb) k
theorem awpR_guard {d : Tmp} {b : Bool} (hd : s.tmps d = .d (.bool b)) (h1 : b = true → awpR ex X all pre rest Q (s.put (some d) (.d (.bool true)))) (h2 : b = false → awpR ex X all pre rest Q (s.put (some d) (.d (.bool false)))) : awpR ex X all pre rest Q s := by
  cases b with
  | true => have := h1 rfl; rwa [put_self hd] at this
  | false => have := h2 rfl; rwa [put_self hd] at this
theorem awp_regE {ex : Bool} (id n : Nat) (ks : List Nat) {ops : List Oper} (hm : X.P.follows .mixedOrders = true) (hok : ordOk ex ops.toArray n = true) (hak : allocKeys ops.toArray = ks) (hK : (ks.all fun k => !(X.K.contains k)) = true) (h : awpR ex X ops.toArray (ops.take n) (ops.drop n) Q (s.kills ks)) : awp X (.region id ops.toArray true) Q s := by
  subst hak
  obtain ⟨s1, h1, h2⟩ := h
  exact awp_region_ord hm n hok hK h1 h2
theorem awp_regK (id n : Nat) (ks : List Nat) {ops : List Oper} (hm : X.P.follows .mixedOrders = true) (hok : ordOk false ops.toArray n = true) (hak : allocKeys ops.toArray = ks) (hK : (ks.all fun k => !(X.K.contains k)) = true) (h : awpR false X ops.toArray (ops.take n) (ops.drop n) Q (s.kills ks)) : awp X (.region id ops.toArray true) Q s := awp_regE id n ks hm hok hak hK h
theorem awp_reg (id n : Nat) {ops : List Oper} (hm : X.P.follows .mixedOrders = true) (hok : ordOk false ops.toArray n = true) (hak : allocKeys ops.toArray = []) (h : awpR false X ops.toArray (ops.take n) (ops.drop n) Q s) : awp X (.region id ops.toArray true) Q s := awp_regK id n [] hm hok hak rfl h
end

/-! ## Guards that are open -/

def guardOf (all : Array Oper) (o : Oper) : Option Tmp := match o.guard with | none => none | some (g, _) => (all[g]?).bind (·.dst)

section
variable {ex : Bool} {X : Ctx} {all : Array Oper} {Q : Exit → St → Prop} {s : St} {o : Oper} {pre rest : List Oper} {d : Tmp}
theorem gdL {b : Bool} (hg : guardOf all o = some d) (hd : s.tmps d = .d (.bool b)) (h1 : b = true → awpL X all (o :: rest) Q (s.put (some d) (.d (.bool true)))) (h2 : b = false → awpL X all (o :: rest) Q (s.put (some d) (.d (.bool false)))) : awpL X all (o :: rest) Q s := awpL_guard hd h1 h2
theorem gdR {b : Bool} (hg : guardOf all o = some d) (hd : s.tmps d = .d (.bool b)) (h1 : b = true → awpR ex X all (o :: pre) rest Q (s.put (some d) (.d (.bool true)))) (h2 : b = false → awpR ex X all (o :: pre) rest Q (s.put (some d) (.d (.bool false)))) : awpR ex X all (o :: pre) rest Q s := awpR_guard hd h1 h2
end
section
variable {ex : Bool} {X : Ctx} {all : Array Oper} {Q : Exit → St → Prop} {s : St} {o : Oper} {pre rest : List Oper} {d : Tmp} {p : Prop} [Decidable p]
theorem gdLD (hg : guardOf all o = some d) (hd : s.tmps d = .d (.bool (decide p))) (h1 : p → awpL X all (o :: rest) Q (s.put (some d) (.d (.bool true)))) (h2 : ¬ p → awpL X all (o :: rest) Q (s.put (some d) (.d (.bool false)))) : awpL X all (o :: rest) Q s := awpL_guard hd (fun e => h1 (of_decide_eq_true e)) (fun e => h2 (of_decide_eq_false e))
theorem gdLN (hg : guardOf all o = some d) (hd : s.tmps d = .d (.bool (!decide p))) (h1 : ¬ p → awpL X all (o :: rest) Q (s.put (some d) (.d (.bool true)))) (h2 : p → awpL X all (o :: rest) Q (s.put (some d) (.d (.bool false)))) : awpL X all (o :: rest) Q s := awpL_guard hd (fun e => h1 (of_decide_eq_false (by simpa using e))) (fun e => h2 (of_decide_eq_true (by simpa using e)))
theorem gdRD (hg : guardOf all o = some d) (hd : s.tmps d = .d (.bool (decide p))) (h1 : p → awpR ex X all (o :: pre) rest Q (s.put (some d) (.d (.bool true)))) (h2 : ¬ p → awpR ex X all (o :: pre) rest Q (s.put (some d) (.d (.bool false)))) : awpR ex X all (o :: pre) rest Q s := awpR_guard hd (fun e => h1 (of_decide_eq_true e)) (fun e => h2 (of_decide_eq_false e))
theorem gdRN (hg : guardOf all o = some d) (hd : s.tmps d = .d (.bool (!decide p))) (h1 : ¬ p → awpR ex X all (o :: pre) rest Q (s.put (some d) (.d (.bool true)))) (h2 : p → awpR ex X all (o :: pre) rest Q (s.put (some d) (.d (.bool false)))) : awpR ex X all (o :: pre) rest Q s := awpR_guard hd (fun e => h1 (of_decide_eq_false (by simpa using e))) (fun e => h2 (of_decide_eq_true (by simpa using e)))
end
theorem goL {G : Prop} {X : Ctx} {all : Array Oper} {ops : List Oper} {Q : Exit → St → Prop} {s : St} (k : G) (h : G → awpL X all ops Q s := by
  first
  | exact Go.Vw.stepQ true Go.Vw.tt Go.Vw.stt rfl rfl rfl Go.Vw.sc
  | exact Go.Vw.awpL_nil
  | exact Go.Vw.stepOff Go.Vw.sff rfl rfl
  | exact Go.Vw.stepStore Go.Vw.tt rfl rfl rfl rfl rfl rfl rfl rfl rfl Go.Vw.leL Go.Vw.sc
  | exact Go.Vw.stepStoreV Go.Vw.tt rfl rfl rfl rfl rfl rfl rfl rfl Go.Vw.sc
  | exact Go.Vw.stepAppF Go.Vw.tt rfl rfl rfl rfl rfl rfl rfl rfl rfl rfl rfl (Go.Vw.LeD.refl _) (Go.Vw.LeD.lit rfl (Go.Vw.LeR.cons rfl Go.Vw.leL Go.Vw.LeR.nil)) Go.Vw.sc
  | exact Go.Vw.stepAppF Go.Vw.tt rfl rfl rfl rfl rfl rfl rfl rfl rfl rfl rfl (Go.Vw.LeD.refl _) (Go.Vw.LeD.lit rfl Go.Vw.LeR.nil) Go.Vw.sc
  | exact Go.Vw.stepApp Go.Vw.tt rfl rfl rfl rfl rfl rfl rfl rfl rfl rfl rfl rfl Go.Vw.sc Go.Vw.srcOk Go.Vw.sc
  | exact Go.Vw.stepAppNil Go.Vw.tt rfl rfl rfl rfl rfl rfl rfl rfl rfl rfl rfl Go.Vw.srcZ Go.Vw.sc
  | exact Go.Vw.stepE1 Go.Vw.tt rfl rfl rfl rfl rfl
  | exact Go.Vw.stepE0 Go.Vw.tt rfl rfl rfl
  | exact Go.Vw.stepLitF Go.Vw.tt rfl Go.Vw.tt rfl rfl rfl
  | exact Go.Vw.stepLit Go.Vw.tt rfl rfl rfl rfl
  | exact Go.Vw.stepMake (mm := true) (en := Go.Vw.eN .u32) (z := 0) Go.Vw.tt rfl rfl rfl rfl rfl rfl rfl rfl rfl rfl rfl rfl Go.Vw.leL Go.Vw.sc Go.Vw.sc
  | exact Go.Vw.stepMake (mm := false) (en := Go.Vw.eN .u32) (z := 0) Go.Vw.tt rfl rfl rfl rfl rfl rfl rfl rfl rfl rfl rfl rfl Go.Vw.leL Go.Vw.sc Go.Vw.sc
  | exact Go.Vw.stepMake (mm := true) (en := Go.Vw.eI .i64) (z := 0) Go.Vw.tt rfl rfl rfl rfl rfl rfl rfl rfl rfl rfl rfl rfl Go.Vw.leL Go.Vw.sc Go.Vw.sc
  | exact Go.Vw.stepMake (mm := false) (en := Go.Vw.eI .i64) (z := 0) Go.Vw.tt rfl rfl rfl rfl rfl rfl rfl rfl rfl rfl rfl rfl Go.Vw.leL Go.Vw.sc Go.Vw.sc
  | exact Go.Vw.stepQ false Go.Vw.tt Go.Vw.stt rfl rfl rfl Go.Vw.sc
  | exact Go.Vw.stepB2S rfl rfl rfl rfl rfl rfl rfl rfl rfl rfl rfl (Go.Vw.LeD.refl _)
  | exact Go.Vw.stepB2SO rfl rfl rfl rfl rfl rfl rfl rfl rfl rfl rfl rfl
  | exact Go.Vw.stepS2B rfl rfl rfl rfl rfl rfl rfl rfl rfl rfl rfl
  | exact Go.Vw.stepB2S rfl rfl rfl rfl rfl rfl rfl rfl rfl rfl rfl (Go.Vw.LeD.lit rfl (Go.Vw.LeR.cons rfl Go.Vw.leL Go.Vw.LeR.nil))
  | exact Go.Vw.stepM0 Go.Vw.tt rfl (Go.Vw.m_q true rfl rfl Go.Vw.sc)
  | fail) : awpL X all ops Q s := h k
section
variable {ex : Bool} {X : Ctx} {all : Array Oper} {Q : Exit → St → Prop} {s : St} {o : Oper} {pre rest : List Oper} {c : Call} {caps : List V} {ds' : List D} {r : D}

def CallM (X : Ctx) (all : Array Oper) (s : St) (o : Oper) (f : FuncId) (ds' : List D) (r : D) : Prop := Ret X.P f ds' (· = r) → M1 X all s o (.d r)
def CallE (X : Ctx) (all : Array Oper) (s s1 : St) (o : Oper) (f : FuncId) (ds' : List D) (r : D) : Prop := Ret X.P f ds' (· = r) → E1 X all s o (s1.put o.dst (.d r))

theorem callM_plain {f : FuncId} (hop : o.op = .call c) (hg : gd all s o = some true) (hc : calleeOf s c = some (f, caps)) (hk : (allD (c.args.toList.map s.opd ++ caps)).isSome = true) {ds : List D} (ha : allD (c.args.toList.map s.opd ++ caps) = some ds) (le : LeT ds ds') : CallM X all s o f ds' r := fun hr => m_callR hg hop hc ha le hr
theorem callM_lent {f : FuncId} (m : Bool) (hop : o.op = .call c) (hg : gd all s o = some true) (hc : calleeOf s c = some (f, caps)) (hk2 : (allD (c.args.toList.map s.opd ++ caps)).isSome = false) (hk : (V.asDs m s (c.args.toList.map s.opd ++ caps)).isSome = true) {C : Prop} {ds : List D} (ha : V.asDs m s (c.args.toList.map s.opd ++ caps) = some (C, ds)) (le : LeT ds ds') (hn : r.noRef = true) (hC : C) : CallM X all s o f ds' r := fun hr => m_callB hg hop hc m ha le hr hC hn
theorem callE_of {f : FuncId} (hd : dstOk X.N o.dst = true) (h : CallM X all s o f ds' r) : CallE X all s s o f ds' r := fun hr => (h hr).e1 hd
theorem callE_frz {f : FuncId} {s1 : St} (hop : o.op = .call c) (hc : calleeOf s c = some (f, caps)) (hkk : (ownKey (c.args.toList.map s.opd ++ caps)).isSome = true) {k : Nat} {b : Blk} (hk : ownKey (c.args.toList.map s.opd ++ caps) = some k) (hb : s.blk k = some b) (h : CallE X all (s.sub k (some b)) s1 o f ds' r) : CallE X all s s1 o f ds' r := fun hr => e_frz k hb (h hr)

def calleeIs (s : St) (op : Op) (f : FuncId) : Bool := match op with | .call c => (match calleeOf s c with | some (g, _) => Nat.beq g f | none => false) | _ => false
theorem cl {s1 : St} {d : Tmp} (f : FuncId) (hcf : calleeIs s o.op f = true) (hop : o.op = .call c) (hc : calleeOf s c = some (f, caps)) (hdst : o.dst = some d) (h : CallE X all s s1 o f ds' r := by
  first
  | exact Go.Vw.callE_of rfl (Go.Vw.callM_plain rfl rfl rfl Go.Vw.tt rfl Go.Vw.leT)
  | exact Go.Vw.callE_of rfl (Go.Vw.callM_lent true rfl rfl rfl Go.Vw.ff Go.Vw.tt rfl Go.Vw.leT rfl Go.Vw.sc)
  | exact Go.Vw.callE_of rfl (Go.Vw.callM_lent false rfl rfl rfl Go.Vw.ff Go.Vw.tt rfl Go.Vw.leT rfl Go.Vw.sc)
  | exact Go.Vw.callE_frz rfl rfl Go.Vw.tt rfl rfl (Go.Vw.callE_of rfl (Go.Vw.callM_plain rfl rfl rfl Go.Vw.tt rfl Go.Vw.leT))
  | exact Go.Vw.callE_frz rfl rfl Go.Vw.tt rfl rfl (Go.Vw.callE_frz rfl rfl Go.Vw.tt rfl rfl (Go.Vw.callE_of rfl (Go.Vw.callM_plain rfl rfl rfl Go.Vw.tt rfl Go.Vw.leT)))
  | fail) (hr : Ret X.P f ds' (· = r)) (k : awpL X all rest Q (s1.put (some d) (.d r))) : awpL X all (o :: rest) Q s := by
  rw [← hdst] at k
  exact awpL_step (h hr) k
theorem clR {d : Tmp} (f : FuncId) (hcf : calleeIs s o.op f = true) (hop : o.op = .call c) (hc : calleeOf s c = some (f, caps)) (hdst : o.dst = some d) (h : CallM X all s o f ds' r := by
  first
  | exact Go.Vw.callM_plain rfl rfl rfl Go.Vw.tt rfl Go.Vw.leT
  | exact Go.Vw.callM_lent true rfl rfl rfl Go.Vw.ff Go.Vw.tt rfl Go.Vw.leT rfl Go.Vw.sc
  | exact Go.Vw.callM_lent false rfl rfl rfl Go.Vw.ff Go.Vw.tt rfl Go.Vw.leT rfl Go.Vw.sc
  | fail) (hd : dstOk X.N (some d) = true := by exact rfl) (hr : Ret X.P f ds' (· = r)) (k : awpR ex X all pre rest Q (s.put (some d) (.d r))) : awpR ex X all (o :: pre) rest Q s :=
  awpR_cons (isMove_call hop (callee_reg hc)) (isAlloc_call hop) (isLoad_call hop) hdst hd (h hr) k
end

theorem fin {T : TypeId → Option TyD} {fn : Func} {R : D → Prop} {s : St} (m : Bool) {C : Prop} {r : D} (hd : s.dfs = []) (h : resOf T m s fn.results.toList = some (C, r)) (hR : R r) (hC : C := by exact Go.Vw.sc) : retPost T fn R .ret s := ⟨hd, m, C, r, r, h, hC, LeD.refl _, hR⟩
section
variable {T : TypeId → Option TyD} {fn : Func} {x : D} {s : St} {C : Prop} {r : D}
theorem finE (m : Bool) (hd : s.dfs = []) (h : resOf T m s fn.results.toList = some (C, r)) (hC : C) (hR : r = x) : retPost T fn (fun y => y = x) .ret s := ⟨hd, m, C, r, x, h, hC, hR ▸ LeD.refl _, rfl⟩
theorem finLe (m : Bool) (hd : s.dfs = []) (h : resOf T m s fn.results.toList = some (C, r)) (hC : C) (hR : LeD r x) : retPost T fn (fun y => y = x) .ret s := ⟨hd, m, C, r, x, h, hC, hR, rfl⟩
theorem finF (m : Bool) (hd : s.dfs = []) {sz : Nat} {α : Type} {e : α → List D} {z : α} {l l' : List α} (h : resOf T m s fn.results.toList = some (C, .sl sz e z (cut 0 l'.length l'))) (hC : C) (hR : l' = l) : retPost T fn (fun y => y = .sl sz e z l) .ret s := by
  subst hR; exact finLe m hd h hC LeD.full
theorem finC (m : Bool) (hd : s.dfs = []) {sz n : Nat} {α : Type} {e : α → List D} {z : α} {l l' : List α} (h : resOf T m s fn.results.toList = some (C, .sl sz e z (cut 0 n l'))) (hC : C) (hn : n = l'.length) (hR : l' = l) : retPost T fn (fun y => y = .sl sz e z l) .ret s := by
  subst hR; exact finLe m hd h hC (LeD.cutAll hn)
theorem finT (m : Bool) (hd : s.dfs = []) {rs ys : List D} (h : resOf T m s fn.results.toList = some (C, .tup rs)) (hC : C) (hR : LeT rs ys) : retPost T fn (fun y => y = .tup ys) .ret s := finLe m hd h hC (LeD.tup hR)
theorem finA (m : Bool) (hd : s.dfs = []) {rs ys : List D} (h : resOf T m s fn.results.toList = some (C, .agg rs)) (hC : C) (hR : LeL rs ys) : retPost T fn (fun y => y = .agg ys) .ret s := finLe m hd h hC (LeD.agg hR)
theorem finN (hd : s.dfs = []) (h : resOf T true s fn.results.toList = some (C, .nils)) (hC : C) {sz : Nat} {α : Type} {e : α → List D} {z : α} {l : List α} (hR : l = []) : retPost T fn (fun y => y = .sl sz e z l) .ret s := by
  subst hR; exact finLe true hd h hC LeD.nils
theorem finL (m : Bool) (hd : s.dfs = []) {sz n : Nat} {rows : List (List D)} (h : resOf T m s fn.results.toList = some (C, .sl sz (nth [] rows) 0 (iota n 0))) (hC : C) (hn : rows.length = n) {α : Type} {e : α → List D} {z : α} {l l' : List α} (hl : LeR sz rows e l') (hR : l' = l) : retPost T fn (fun y => y = .sl sz e z l) .ret s := by
  subst hR; exact finLe m hd h hC (LeD.lit hn hl)
end

/-! ## Short words: ways and ends -/

section
variable {ex : Bool} {X : Ctx} {all : Array Oper} {Q : Exit → St → Prop} {s : St} {o : Oper} {pre rest : List Oper} {G G1 G2 : Prop}
theorem finG {T : TypeId → Option TyD} {fn : Func} {R : D → Prop} {e : Exit} (k : G) (h : G → retPost T fn R e s := by
  first
  | exact Go.Vw.finF true rfl rfl Go.Vw.sc
  | exact Go.Vw.finF false rfl rfl Go.Vw.sc
  | exact Go.Vw.finC false rfl rfl Go.Vw.sc Go.Vw.sc
  | exact Go.Vw.finN rfl rfl Go.Vw.sc
  | exact Go.Vw.finL true rfl rfl Go.Vw.sc rfl (Go.Vw.LeR.cons rfl Go.Vw.leL Go.Vw.LeR.nil)
  | exact Go.Vw.finE true rfl rfl Go.Vw.sc
  | exact Go.Vw.finE false rfl rfl Go.Vw.sc
  | fail) : retPost T fn R e s := h k
theorem finTG {T : TypeId → Option TyD} {fn : Func} {R : D → Prop} {e : Exit} (k : G) (h : G → retPost T fn R e s := by
  first
  | exact Go.Vw.finF true rfl rfl Go.Vw.sc
  | exact Go.Vw.finF false rfl rfl Go.Vw.sc
  | exact Go.Vw.finC false rfl rfl Go.Vw.sc Go.Vw.sc
  | exact Go.Vw.finN rfl rfl Go.Vw.sc
  | exact Go.Vw.finL true rfl rfl Go.Vw.sc rfl (Go.Vw.LeR.cons rfl Go.Vw.leL Go.Vw.LeR.nil)
  | exact Go.Vw.finT true rfl rfl Go.Vw.sc
  | exact Go.Vw.finT false rfl rfl Go.Vw.sc
  | exact Go.Vw.finE true rfl rfl Go.Vw.sc
  | exact Go.Vw.finE false rfl rfl Go.Vw.sc
  | fail) : retPost T fn R e s := h k
end
end Go.Vw

/-
  The types of the translation, as a table, and that the program has them so. Conditions: none.
-/
set_option maxRecDepth 100000
namespace Go.Proofs.YtejigedigmagdaaGreat
open Go.Vw
def T : TypeId → Option TyD
  | 2 => some ⟨.int .i64, 1, 8, .int .i64 0⟩
  | 3 => some ⟨.int .i64, 1, 8, .int .i64 0⟩
  | 4 => some ⟨.bool, 1, 1, .bool false⟩
  | 5 => some ⟨.int .u8, 1, 1, .int .u8 0⟩
  | 6 => some ⟨.int .u8, 1, 1, .int .u8 0⟩
  | 9 => some ⟨.string, 1, 16, .string .empty⟩
  | 10 => some ⟨.string, 1, 16, .string .empty⟩
  | 11 => some ⟨.string, 1, 16, .string .empty⟩
  | 12 => some ⟨.int .u64, 1, 8, .int .u64 0⟩
  | 15 => some ⟨.pointer 191, 1, 8, .pointer none⟩
  | 16 => some ⟨.pointer 194, 1, 8, .pointer none⟩
  | 17 => some ⟨.pointer 203, 1, 8, .pointer none⟩
  | 21 => some ⟨.int .i32, 1, 4, .int .i32 0⟩
  | 22 => some ⟨.slice 27, 1, 24, .slice none 0 0⟩
  | 23 => some ⟨.slice 111, 1, 24, .slice none 0 0⟩
  | 24 => some ⟨.struct #[⟨ "Neg", 4, 0, false, "", "", 0⟩, ⟨ "Mag", 23, 1, false, "", "", 8⟩], 2, 32, .agg #[.bool false, .slice none 0 0]⟩
  | 25 => some ⟨.struct #[⟨ "Neg", 4, 0, false, "", "", 0⟩, ⟨ "Mag", 23, 1, false, "", "", 8⟩], 2, 32, .agg #[.bool false, .slice none 0 0]⟩
  | 26 => some ⟨.struct #[⟨ "Num", 25, 0, false, "", "", 0⟩, ⟨ "Den", 23, 2, false, "", "", 32⟩], 3, 56, .agg #[.bool false, .slice none 0 0, .slice none 0 0]⟩
  | 27 => some ⟨.struct #[⟨ "Num", 25, 0, false, "", "", 0⟩, ⟨ "Den", 23, 2, false, "", "", 32⟩], 3, 56, .agg #[.bool false, .slice none 0 0, .slice none 0 0]⟩
  | 31 => some ⟨.struct #[⟨ "Lo", 27, 0, false, "", "", 0⟩, ⟨ "Hi", 27, 3, false, "", "", 56⟩], 6, 112, .agg #[.bool false, .slice none 0 0, .slice none 0 0, .bool false, .slice none 0 0, .slice none 0 0]⟩
  | 32 => some ⟨.struct #[⟨ "Lo", 27, 0, false, "", "", 0⟩, ⟨ "Hi", 27, 3, false, "", "", 56⟩], 6, 112, .agg #[.bool false, .slice none 0 0, .slice none 0 0, .bool false, .slice none 0 0, .slice none 0 0]⟩
  | 33 => some ⟨.int .i64, 1, 8, .int .i64 0⟩
  | 38 => some ⟨.slice 3, 1, 24, .slice none 0 0⟩
  | 42 => some ⟨.slice 32, 1, 24, .slice none 0 0⟩
  | 43 => some ⟨.struct #[⟨ "Points", 42, 0, false, "", "", 0⟩, ⟨ "Flat", 42, 1, false, "", "", 24⟩], 2, 48, .agg #[.slice none 0 0, .slice none 0 0]⟩
  | 44 => some ⟨.struct #[⟨ "Points", 42, 0, false, "", "", 0⟩, ⟨ "Flat", 42, 1, false, "", "", 24⟩], 2, 48, .agg #[.slice none 0 0, .slice none 0 0]⟩
  | 111 => some ⟨.int .u32, 1, 4, .int .u32 0⟩
  | 123 => some ⟨.int .u64, 1, 8, .int .u64 0⟩
  | 129 => some ⟨.int .u64, 1, 8, .int .u64 0⟩
  | 134 => some ⟨.slice 22, 1, 24, .slice none 0 0⟩
  | 135 => some ⟨.slice 22, 1, 24, .slice none 0 0⟩
  | 169 => some ⟨.int .i64, 1, 8, .int .i64 0⟩
  | 179 => some ⟨.int .u64, 1, 8, .int .u64 0⟩
  | 183 => some ⟨.pointer 3, 1, 8, .pointer none⟩
  | 185 => some ⟨.pointer 179, 1, 8, .pointer none⟩
  | 188 => some ⟨.pointer 205, 1, 8, .pointer none⟩
  | 192 => some ⟨.array 0 16, 0, 0, .agg #[]⟩
  | 196 => some ⟨.int .u8, 1, 1, .int .u8 0⟩
  | 197 => some ⟨.int .u8, 1, 1, .int .u8 0⟩
  | 199 => some ⟨.pointer 5, 1, 8, .pointer none⟩
  | 200 => some ⟨.int .i32, 1, 4, .int .i32 0⟩
  | 201 => some ⟨.int .i32, 1, 4, .int .i32 0⟩
  | 204 => some ⟨.struct #[⟨ "s", 9, 0, false, "", "errors", 0⟩], 1, 16, .agg #[.string .empty]⟩
  | 205 => some ⟨.struct #[⟨ "s", 9, 0, false, "", "errors", 0⟩], 1, 16, .agg #[.string .empty]⟩
  | _ => none
theorem ty2 : tyOf Tryz.prog 2 = some ⟨.int .i64, 1, 8, .int .i64 0⟩ := by kernel_rfl
theorem ty3 : tyOf Tryz.prog 3 = some ⟨.int .i64, 1, 8, .int .i64 0⟩ := by kernel_rfl
theorem ty4 : tyOf Tryz.prog 4 = some ⟨.bool, 1, 1, .bool false⟩ := by kernel_rfl
theorem ty5 : tyOf Tryz.prog 5 = some ⟨.int .u8, 1, 1, .int .u8 0⟩ := by kernel_rfl
theorem ty6 : tyOf Tryz.prog 6 = some ⟨.int .u8, 1, 1, .int .u8 0⟩ := by kernel_rfl
theorem ty9 : tyOf Tryz.prog 9 = some ⟨.string, 1, 16, .string .empty⟩ := by kernel_rfl
theorem ty10 : tyOf Tryz.prog 10 = some ⟨.string, 1, 16, .string .empty⟩ := by kernel_rfl
theorem ty11 : tyOf Tryz.prog 11 = some ⟨.string, 1, 16, .string .empty⟩ := by kernel_rfl
theorem ty12 : tyOf Tryz.prog 12 = some ⟨.int .u64, 1, 8, .int .u64 0⟩ := by kernel_rfl
theorem ty15 : tyOf Tryz.prog 15 = some ⟨.pointer 191, 1, 8, .pointer none⟩ := by kernel_rfl
theorem ty16 : tyOf Tryz.prog 16 = some ⟨.pointer 194, 1, 8, .pointer none⟩ := by kernel_rfl
theorem ty17 : tyOf Tryz.prog 17 = some ⟨.pointer 203, 1, 8, .pointer none⟩ := by kernel_rfl
theorem ty21 : tyOf Tryz.prog 21 = some ⟨.int .i32, 1, 4, .int .i32 0⟩ := by kernel_rfl
theorem ty22 : tyOf Tryz.prog 22 = some ⟨.slice 27, 1, 24, .slice none 0 0⟩ := by kernel_rfl
theorem ty23 : tyOf Tryz.prog 23 = some ⟨.slice 111, 1, 24, .slice none 0 0⟩ := by kernel_rfl
theorem ty24 : tyOf Tryz.prog 24 = some ⟨.struct #[⟨ "Neg", 4, 0, false, "", "", 0⟩, ⟨ "Mag", 23, 1, false, "", "", 8⟩], 2, 32, .agg #[.bool false, .slice none 0 0]⟩ := by kernel_rfl
theorem ty25 : tyOf Tryz.prog 25 = some ⟨.struct #[⟨ "Neg", 4, 0, false, "", "", 0⟩, ⟨ "Mag", 23, 1, false, "", "", 8⟩], 2, 32, .agg #[.bool false, .slice none 0 0]⟩ := by kernel_rfl
theorem ty26 : tyOf Tryz.prog 26 = some ⟨.struct #[⟨ "Num", 25, 0, false, "", "", 0⟩, ⟨ "Den", 23, 2, false, "", "", 32⟩], 3, 56, .agg #[.bool false, .slice none 0 0, .slice none 0 0]⟩ := by kernel_rfl
theorem ty27 : tyOf Tryz.prog 27 = some ⟨.struct #[⟨ "Num", 25, 0, false, "", "", 0⟩, ⟨ "Den", 23, 2, false, "", "", 32⟩], 3, 56, .agg #[.bool false, .slice none 0 0, .slice none 0 0]⟩ := by kernel_rfl
theorem ty31 : tyOf Tryz.prog 31 = some ⟨.struct #[⟨ "Lo", 27, 0, false, "", "", 0⟩, ⟨ "Hi", 27, 3, false, "", "", 56⟩], 6, 112, .agg #[.bool false, .slice none 0 0, .slice none 0 0, .bool false, .slice none 0 0, .slice none 0 0]⟩ := by kernel_rfl
theorem ty32 : tyOf Tryz.prog 32 = some ⟨.struct #[⟨ "Lo", 27, 0, false, "", "", 0⟩, ⟨ "Hi", 27, 3, false, "", "", 56⟩], 6, 112, .agg #[.bool false, .slice none 0 0, .slice none 0 0, .bool false, .slice none 0 0, .slice none 0 0]⟩ := by kernel_rfl
theorem ty33 : tyOf Tryz.prog 33 = some ⟨.int .i64, 1, 8, .int .i64 0⟩ := by kernel_rfl
theorem ty38 : tyOf Tryz.prog 38 = some ⟨.slice 3, 1, 24, .slice none 0 0⟩ := by kernel_rfl
theorem ty42 : tyOf Tryz.prog 42 = some ⟨.slice 32, 1, 24, .slice none 0 0⟩ := by kernel_rfl
theorem ty43 : tyOf Tryz.prog 43 = some ⟨.struct #[⟨ "Points", 42, 0, false, "", "", 0⟩, ⟨ "Flat", 42, 1, false, "", "", 24⟩], 2, 48, .agg #[.slice none 0 0, .slice none 0 0]⟩ := by kernel_rfl
theorem ty44 : tyOf Tryz.prog 44 = some ⟨.struct #[⟨ "Points", 42, 0, false, "", "", 0⟩, ⟨ "Flat", 42, 1, false, "", "", 24⟩], 2, 48, .agg #[.slice none 0 0, .slice none 0 0]⟩ := by kernel_rfl
theorem ty111 : tyOf Tryz.prog 111 = some ⟨.int .u32, 1, 4, .int .u32 0⟩ := by kernel_rfl
theorem ty123 : tyOf Tryz.prog 123 = some ⟨.int .u64, 1, 8, .int .u64 0⟩ := by kernel_rfl
theorem ty129 : tyOf Tryz.prog 129 = some ⟨.int .u64, 1, 8, .int .u64 0⟩ := by kernel_rfl
theorem ty134 : tyOf Tryz.prog 134 = some ⟨.slice 22, 1, 24, .slice none 0 0⟩ := by kernel_rfl
theorem ty135 : tyOf Tryz.prog 135 = some ⟨.slice 22, 1, 24, .slice none 0 0⟩ := by kernel_rfl
theorem ty169 : tyOf Tryz.prog 169 = some ⟨.int .i64, 1, 8, .int .i64 0⟩ := by kernel_rfl
theorem ty179 : tyOf Tryz.prog 179 = some ⟨.int .u64, 1, 8, .int .u64 0⟩ := by kernel_rfl
theorem ty183 : tyOf Tryz.prog 183 = some ⟨.pointer 3, 1, 8, .pointer none⟩ := by kernel_rfl
theorem ty185 : tyOf Tryz.prog 185 = some ⟨.pointer 179, 1, 8, .pointer none⟩ := by kernel_rfl
theorem ty188 : tyOf Tryz.prog 188 = some ⟨.pointer 205, 1, 8, .pointer none⟩ := by kernel_rfl
theorem ty192 : tyOf Tryz.prog 192 = some ⟨.array 0 16, 0, 0, .agg #[]⟩ := by kernel_rfl
theorem ty196 : tyOf Tryz.prog 196 = some ⟨.int .u8, 1, 1, .int .u8 0⟩ := by kernel_rfl
theorem ty197 : tyOf Tryz.prog 197 = some ⟨.int .u8, 1, 1, .int .u8 0⟩ := by kernel_rfl
theorem ty199 : tyOf Tryz.prog 199 = some ⟨.pointer 5, 1, 8, .pointer none⟩ := by kernel_rfl
theorem ty200 : tyOf Tryz.prog 200 = some ⟨.int .i32, 1, 4, .int .i32 0⟩ := by kernel_rfl
theorem ty201 : tyOf Tryz.prog 201 = some ⟨.int .i32, 1, 4, .int .i32 0⟩ := by kernel_rfl
theorem ty204 : tyOf Tryz.prog 204 = some ⟨.struct #[⟨ "s", 9, 0, false, "", "errors", 0⟩], 1, 16, .agg #[.string .empty]⟩ := by kernel_rfl
theorem ty205 : tyOf Tryz.prog 205 = some ⟨.struct #[⟨ "s", 9, 0, false, "", "errors", 0⟩], 1, 16, .agg #[.string .empty]⟩ := by kernel_rfl
theorem tab : TabOk Tryz.prog T := by
  intro t d h
  unfold T at h
  split at h
  · cases h; exact TyOk.of ty2
  · cases h; exact TyOk.of ty3
  · cases h; exact TyOk.of ty4
  · cases h; exact TyOk.of ty5
  · cases h; exact TyOk.of ty6
  · cases h; exact TyOk.of ty9
  · cases h; exact TyOk.of ty10
  · cases h; exact TyOk.of ty11
  · cases h; exact TyOk.of ty12
  · cases h; exact TyOk.of ty15
  · cases h; exact TyOk.of ty16
  · cases h; exact TyOk.of ty17
  · cases h; exact TyOk.of ty21
  · cases h; exact TyOk.of ty22
  · cases h; exact TyOk.of ty23
  · cases h; exact TyOk.of ty24
  · cases h; exact TyOk.of ty25
  · cases h; exact TyOk.of ty26
  · cases h; exact TyOk.of ty27
  · cases h; exact TyOk.of ty31
  · cases h; exact TyOk.of ty32
  · cases h; exact TyOk.of ty33
  · cases h; exact TyOk.of ty38
  · cases h; exact TyOk.of ty42
  · cases h; exact TyOk.of ty43
  · cases h; exact TyOk.of ty44
  · cases h; exact TyOk.of ty111
  · cases h; exact TyOk.of ty123
  · cases h; exact TyOk.of ty129
  · cases h; exact TyOk.of ty134
  · cases h; exact TyOk.of ty135
  · cases h; exact TyOk.of ty169
  · cases h; exact TyOk.of ty179
  · cases h; exact TyOk.of ty183
  · cases h; exact TyOk.of ty185
  · cases h; exact TyOk.of ty188
  · cases h; exact TyOk.of ty192
  · cases h; exact TyOk.of ty196
  · cases h; exact TyOk.of ty197
  · cases h; exact TyOk.of ty199
  · cases h; exact TyOk.of ty200
  · cases h; exact TyOk.of ty201
  · cases h; exact TyOk.of ty204
  · cases h; exact TyOk.of ty205
  · cases h
theorem mixed : Tryz.prog.follows .mixedOrders = true := by kernel_rfl
section
variable {X : Ctx} {Q : Exit → St → Prop} {s : St} {ops : List Oper}
theorem rgK (id n : Nat) (ks : List Nat) (h : awpR false X ops.toArray (ops.take n) (ops.drop n) Q (s.kills ks)) (hm : X.P.follows .mixedOrders = true := by exact mixed) (hok : ordOk false ops.toArray n = true := by kernel_rfl) (hak : allocKeys ops.toArray = ks := by kernel_rfl) (hK : (ks.all fun k => !(X.K.contains k)) = true := by kernel_rfl) : awp X (.region id ops.toArray true) Q s := awp_regE id n ks hm hok hak hK h
theorem rg (id n : Nat) (h : awpR false X ops.toArray (ops.take n) (ops.drop n) Q s) (hm : X.P.follows .mixedOrders = true := by exact mixed) (hok : ordOk false ops.toArray n = true := by kernel_rfl) (hak : allocKeys ops.toArray = [] := by kernel_rfl) : awp X (.region id ops.toArray true) Q s := awp_reg id n hm hok hak h
end
end Go.Proofs.YtejigedigmagdaaGreat

/-
  Natural numbers as lists of limbs of 32 bits: plain arithmetic. Conditions: as each says.
-/
namespace Go.Vw

abbrev B : Nat := 4294967296

def val : List Nat → Nat
  | [] => 0
  | x :: l => x + B * val l

def WF (l : List Nat) : Prop := ∀ x ∈ l, x < B

def limbs (n : Nat) : List Nat := if h : n = 0 then [] else n % B :: limbs (n / B)
termination_by n
decreasing_by exact Nat.div_lt_self (Nat.pos_of_ne_zero h) (by decide)

theorem limbs_zero : limbs 0 = [] := by unfold limbs; simp
theorem limbs_pos {n : Nat} (h : n ≠ 0) : limbs n = n % B :: limbs (n / B) := by
  rw [limbs]; simp [h]

theorem val_limbs (n : Nat) : val (limbs n) = n := by
  induction n using Nat.strongRecOn with
  | _ n ih =>
    by_cases h : n = 0
    · subst h; rw [limbs_zero]; rfl
    · rw [limbs_pos h, val, ih _ (Nat.div_lt_self (Nat.pos_of_ne_zero h) (by decide))]
      exact Nat.mod_add_div n B

theorem wf_limbs (n : Nat) : WF (limbs n) := by
  induction n using Nat.strongRecOn with
  | _ n ih =>
    by_cases h : n = 0
    · subst h; rw [limbs_zero]; intro x hx; cases hx
    · rw [limbs_pos h]
      intro x hx
      rcases List.mem_cons.1 hx with rfl | hx
      · exact Nat.mod_lt _ (by decide)
      · exact ih _ (Nat.div_lt_self (Nat.pos_of_ne_zero h) (by decide)) x hx

theorem WF.tail {x : Nat} {l : List Nat} (h : WF (x :: l)) : WF l := fun y hy => h y (by simp [hy])
theorem WF.head {x : Nat} {l : List Nat} (h : WF (x :: l)) : x < B := h x (by simp)
theorem WF.nil : WF [] := fun x hx => by cases hx
theorem WF.append {a b : List Nat} (ha : WF a) (hb : WF b) : WF (a ++ b) := fun x hx => by
  rcases List.mem_append.1 hx with h | h
  · exact ha x h
  · exact hb x h
theorem WF.take {a : List Nat} (ha : WF a) (n : Nat) : WF (a.take n) := fun x hx => ha x (List.mem_of_mem_take hx)
theorem WF.drop {a : List Nat} (ha : WF a) (n : Nat) : WF (a.drop n) := fun x hx => ha x (List.mem_of_mem_drop hx)
theorem WF.getD {a : List Nat} (ha : WF a) (i : Nat) : a.getD i 0 < B := by
  by_cases h : i < a.length
  · simp only [List.getD, List.getElem?_eq_getElem h, Option.getD_some]; exact ha _ (List.getElem_mem h)
  · simp [List.getD, List.getElem?_eq_none (Nat.le_of_not_lt h)]

theorem val_append (a b : List Nat) : val (a ++ b) = val a + B ^ a.length * val b := by
  induction a with
  | nil => simp [val]
  | cons x a ih =>
    simp only [List.cons_append, val, ih, List.length_cons, Nat.pow_succ]
    rw [Nat.mul_add, Nat.mul_comm (B ^ a.length) B, Nat.mul_assoc, Nat.add_assoc]

theorem val_lt {l : List Nat} (h : WF l) : val l < B ^ l.length := by
  induction l with
  | nil => simp [val]
  | cons x l ih =>
    have h1 := ih h.tail
    have h2 := h.head
    simp only [val, List.length_cons, Nat.pow_succ]
    calc x + B * val l < B + B * val l := by omega
      _ = B * (val l + 1) := by rw [Nat.mul_add]; omega
      _ ≤ B * B ^ l.length := Nat.mul_le_mul_left _ h1
      _ = B ^ l.length * B := Nat.mul_comm _ _

def valid (l : List Nat) : Bool := l.isEmpty || l.getD (l.length - 1) 0 != 0

def trimL : List Nat → List Nat
  | [] => []
  | x :: l => match trimL l with
    | [] => if x = 0 then [] else [x]
    | y :: r => x :: y :: r

theorem trimL_val (l : List Nat) : val (trimL l) = val l := by
  induction l with
  | nil => rfl
  | cons x l ih =>
    simp only [trimL]
    cases h : trimL l with
    | nil =>
      rw [h] at ih
      simp only [val] at ih ⊢
      split
      · rename_i hx; simp [hx, val, ← ih]
      · simp [val, ← ih]
    | cons y r =>
      rw [h] at ih
      simp only [val] at ih ⊢
      rw [ih]

theorem trimL_limbs {l : List Nat} (h : WF l) : trimL l = limbs (val l) := by
  induction l with
  | nil => simp [trimL, val, limbs_zero]
  | cons x l ih =>
    have ih := ih h.tail
    have hx := h.head
    have hv := trimL_val l
    have e1 : (x + B * val l) % B = x := by rw [Nat.add_mul_mod_self_left]; exact Nat.mod_eq_of_lt hx
    have e2 : (x + B * val l) / B = val l := by rw [Nat.add_mul_div_left _ _ (by decide)]; simp [Nat.div_eq_of_lt hx]
    simp only [trimL, val]
    cases ht : trimL l with
    | nil =>
      rw [ht] at hv
      simp only [val] at hv
      rw [← hv]
      by_cases h0 : x = 0
      · simp [h0, limbs_zero]
      · have hx' : x % B = x := Nat.mod_eq_of_lt hx
        have hx2 : x / B = 0 := Nat.div_eq_of_lt hx
        rw [Nat.mul_zero, Nat.add_zero, limbs_pos h0, hx', hx2, limbs_zero]
        simp [h0]
    | cons y r =>
      rw [ht] at ih
      have hne : val l ≠ 0 := fun h0 => by rw [h0, limbs_zero] at ih; cases ih
      rw [limbs_pos (by have : B * val l ≠ 0 := Nat.mul_ne_zero (by decide) hne
                        omega), e1, e2, ← ih]

theorem trimL_limbs_self (n : Nat) : trimL (limbs n) = limbs n := by rw [trimL_limbs (wf_limbs n), val_limbs]

theorem trimL_snoc (l : List Nat) (x : Nat) : trimL (l ++ [x]) = if x = 0 then trimL l else l ++ [x] := by
  induction l with
  | nil => simp [trimL]
  | cons y l ih =>
    simp only [List.cons_append, trimL, ih]
    by_cases h0 : x = 0
    · simp only [h0, if_true]
    · simp only [h0, if_false]
      cases l <;> simp

theorem valid_snoc (l : List Nat) (x : Nat) : valid (l ++ [x]) = (x != 0) := by
  simp [valid, List.getD]

theorem list_snoc {l : List Nat} (h : l ≠ []) : l = l.take (l.length - 1) ++ [l.getD (l.length - 1) 0] := by
  have hp : l.length ≠ 0 := fun e => h (List.length_eq_zero_iff.1 e)
  have h1 : l.length - 1 < l.length := by omega
  conv => lhs; rw [← List.take_append_drop (l.length - 1) l]
  congr 1
  rw [List.drop_eq_getElem_cons h1]
  have h2 : l.length - 1 + 1 = l.length := by omega
  simp [h2, List.getD, h1]

theorem valid_trim {l : List Nat} (h : valid l = true) : trimL l = l := by
  by_cases hn : l = []
  · subst hn; rfl
  · rw [list_snoc hn, valid_snoc] at h
    rw [list_snoc hn, trimL_snoc]
    simp only [bne_iff_ne] at h
    rw [if_neg h]

theorem valid_limbs (n : Nat) : valid (limbs n) = true := by
  by_cases hn : limbs n = []
  · rw [hn]; rfl
  · have h := trimL_limbs_self n
    rw [list_snoc hn, trimL_snoc] at h
    rw [list_snoc hn, valid_snoc]
    simp only [bne_iff_ne]
    intro h0
    rw [if_pos h0] at h
    have hlen := congrArg List.length h
    have hle : ∀ l : List Nat, (trimL l).length ≤ l.length := by
      intro l
      induction l with
      | nil => simp [trimL]
      | cons x l ih =>
        simp only [trimL]
        cases ht : trimL l with
        | nil => by_cases h0 : x = 0 <;> simp [h0]
        | cons y r => rw [ht] at ih; simpa using ih
    have := hle ((limbs n).take ((limbs n).length - 1))
    rw [hlen] at this
    simp at this
    have hp : (limbs n).length ≠ 0 := fun e => hn (List.length_eq_zero_iff.1 e)
    omega

def takeL (l : List Nat) : List Nat := if valid l then l else []
def nv (l : List Nat) : Nat := val (takeL l)

theorem takeL_limbs {l : List Nat} (h : WF l) : takeL l = limbs (nv l) := by
  unfold nv takeL
  cases hv : valid l with
  | true => simp only [if_true]; rw [← trimL_limbs h, valid_trim hv]
  | false => simp [val, limbs_zero]
theorem takeL_of (n : Nat) : takeL (limbs n) = limbs n := by simp [takeL, valid_limbs]
theorem nv_limbs (n : Nat) : nv (limbs n) = n := by rw [nv, takeL_of, val_limbs]

theorem length_limbs_le {n k : Nat} (h : n < B ^ k) : (limbs n).length ≤ k := by
  induction k generalizing n with
  | zero => have : n = 0 := by simpa using h
            subst this; simp [limbs_zero]
  | succ k ih =>
    by_cases h0 : n = 0
    · subst h0; simp [limbs_zero]
    · rw [limbs_pos h0]
      have := ih (n := n / B) (Nat.div_lt_of_lt_mul (by rw [Nat.pow_succ, Nat.mul_comm] at h; exact h))
      simpa using this
theorem lt_pow_length (n : Nat) : n < B ^ (limbs n).length := by
  have := val_lt (wf_limbs n)
  rwa [val_limbs] at this
theorem limbs_eq_nil {n : Nat} : limbs n = [] ↔ n = 0 := by
  constructor
  · intro h
    have := val_limbs n
    rw [h] at this; simpa [val] using this.symm
  · intro h; subst h; exact limbs_zero
theorem limbs_inj {m n : Nat} (h : limbs m = limbs n) : m = n := by rw [← val_limbs m, ← val_limbs n, h]
end Go.Vw

/-
  Lists of limbs, more: digit by digit. Conditions: none.
-/
namespace Go.Vw

theorem val_take_succ (l : List Nat) (i : Nat) : val (l.take (i + 1)) = val (l.take i) + B ^ i * l.getD i 0 := by
  by_cases h : i < l.length
  · rw [List.take_add_one, val_append]
    simp [List.getD, h, val, Nat.min_eq_left (Nat.le_of_lt h)]
  · simp [List.getD, List.getElem?_eq_none (Nat.le_of_not_lt h), List.take_of_length_le (Nat.le_of_not_lt h), List.take_of_length_le (show l.length ≤ i + 1 by omega)]
theorem val_take_all (l : List Nat) {i : Nat} (h : l.length ≤ i) : val (l.take i) = val l := by rw [List.take_of_length_le h]
theorem val_snoc (l : List Nat) (x : Nat) : val (l ++ [x]) = val l + B ^ l.length * x := by rw [val_append]; simp [val]
theorem WF.snoc {l : List Nat} (h : WF l) {x : Nat} (hx : x < B) : WF (l ++ [x]) := WF.append h fun y hy => by simp at hy; omega
theorem WF.set {l : List Nat} (h : WF l) (i : Nat) {x : Nat} (hx : x < B) : WF (l.set i x) := fun y hy => by
  rcases List.mem_or_eq_of_mem_set hy with h1 | h1
  · exact h y h1
  · omega
theorem wf_takeL {l : List Nat} (h : WF l) : WF (takeL l) := by unfold takeL; split; exact h; exact WF.nil
theorem takeL_le (l : List Nat) : (takeL l).length ≤ l.length := by unfold takeL; split <;> simp
theorem B_val : B = 4294967296 := rfl

theorem val_split (l : List Nat) (i : Nat) (h : i < l.length) : val l = val (l.take i) + B ^ i * (l.getD i 0 + B * val (l.drop (i + 1))) := by
  conv => lhs; rw [← List.take_append_drop i l, val_append]
  rw [List.length_take, Nat.min_eq_left (Nat.le_of_lt h), List.drop_eq_getElem_cons h]
  simp [val, List.getD, h]

def cmpN (m n : Nat) : Int := if m < n then -1 else if n < m then 1 else 0

theorem cmpN_neg (m n : Nat) : cmpN m n < 0 ↔ m < n := by unfold cmpN; split; omega; split <;> omega
theorem cmpN_zero (m n : Nat) : cmpN m n = 0 ↔ m = n := by unfold cmpN; split; omega; split <;> omega
theorem val_lt_of {a b : List Nat} (ha : WF a) {i : Nat} (h1 : i < a.length) (h2 : i < b.length) (hd : a.drop (i + 1) = b.drop (i + 1)) (h : a.getD i 0 < b.getD i 0) : val a < val b := by
  rw [val_split a i h1, val_split b i h2, hd]
  have h3 := val_lt (ha.take i)
  rw [List.length_take, Nat.min_eq_left (Nat.le_of_lt h1)] at h3
  have : B ^ i * (a.getD i 0 + 1 + B * val (b.drop (i + 1))) ≤ B ^ i * (b.getD i 0 + B * val (b.drop (i + 1))) := Nat.mul_le_mul_left _ (by omega)
  have h4 : B ^ i * (a.getD i 0 + 1 + B * val (b.drop (i + 1))) = B ^ i + B ^ i * (a.getD i 0 + B * val (b.drop (i + 1))) := by
    rw [show a.getD i 0 + 1 + B * val (b.drop (i + 1)) = 1 + (a.getD i 0 + B * val (b.drop (i + 1))) by omega, Nat.mul_add, Nat.mul_one]
  omega
theorem drop_eq_of {a b : List Nat} {i : Nat} (h1 : i < a.length) (h2 : i < b.length) (hd : a.drop (i + 1) = b.drop (i + 1)) (h : a.getD i 0 = b.getD i 0) : a.drop i = b.drop i := by
  rw [List.drop_eq_getElem_cons h1, List.drop_eq_getElem_cons h2, hd]
  simp [List.getD, h1, h2] at h
  rw [h]
theorem lt_of_length {m n : Nat} (h : (limbs m).length < (limbs n).length) : m < n := by
  refine Nat.lt_of_not_le fun hh => ?_
  have := length_limbs_le (Nat.lt_of_le_of_lt hh (lt_pow_length m))
  omega
theorem nv_lt {l : List Nat} (h : WF l) : nv l < B ^ l.length := by
  have := val_lt (wf_takeL h)
  exact Nat.lt_of_lt_of_le this (Nat.pow_le_pow_right (by decide) (takeL_le l))
theorem length_limbs_nv {l : List Nat} (h : WF l) : (limbs (nv l)).length ≤ l.length := length_limbs_le (nv_lt h)
theorem limbs_len_mono {m n : Nat} (h : m ≤ n) : (limbs m).length ≤ (limbs n).length := length_limbs_le (Nat.lt_of_le_of_lt h (lt_pow_length n))
end Go.Vw

/-
  Contracts of functions that are lent blocks of the caller's own, write into them, and hand back new ones. Conditions: the table of types is the program's.
-/
namespace Go.Vw
open Go.RowKit

mutual
def V.refs : V → List Nat
  | .own k _ _ _ _ => [k]
  | .ptr k _ => [k]
  | .eptr k _ _ _ => [k]
  | .agg cs => V.refsL cs
  | .tup cs => V.refsL cs
  | .fn _ cs => V.refsL cs
  | .d _ => []
def V.refsL : List V → List Nat
  | [] => []
  | x :: xs => V.refs x ++ V.refsL xs
end

section
variable {io io' : Keys} {F : Nat → Prop} {w : World}
mutual
theorem VR.agree : ∀ (x : V) (v : Value), (∀ k ∈ x.refs, io'.io k = io.io k ∧ io.ln k ≤ io'.ln k) → VR io F w x v → VR io' F w x v
  | .d x, v, _, h => by simp only [VR] at h ⊢; exact h
  | .own k o n ty sz, v, hk, h => by
      simp only [VR] at h ⊢
      obtain ⟨e1, e2⟩ := hk k (by simp [V.refs])
      rw [e1]
      rcases h with h | ⟨b, cap, arr, h1, h2, h3, h4, h5, h6, h7⟩
      · exact .inl h
      · exact .inr ⟨b, cap, arr, h1, h2, h3, h4, h5, h6, Nat.le_trans h7 e2⟩
  | .ptr k off, v, hk, h => by simp only [VR] at h ⊢; rw [(hk k (by simp [V.refs])).1]; exact h
  | .eptr k sz i f, v, hk, h => by simp only [VR] at h ⊢; rw [(hk k (by simp [V.refs])).1]; exact h
  | .agg cs, v, hk, h => by simp only [VR] at h ⊢; obtain ⟨a, e, l, h⟩ := h; exact ⟨a, e, l, VRA.agree cs _ _ (by simpa only [V.refs] using hk) h⟩
  | .tup cs, v, hk, h => by simp only [VR] at h ⊢; obtain ⟨a, e, l, h⟩ := h; exact ⟨a, e, l, VRT.agree cs _ _ (by simpa only [V.refs] using hk) h⟩
  | .fn f cs, v, hk, h => by simp only [VR] at h ⊢; obtain ⟨a, e, l, h⟩ := h; exact ⟨a, e, l, VRA.agree cs _ _ (by simpa only [V.refs] using hk) h⟩
theorem VRA.agree : ∀ (xs : List V) (g : Nat → Option Value) (off : Nat), (∀ k ∈ V.refsL xs, io'.io k = io.io k ∧ io.ln k ≤ io'.ln k) → VRA io F w g off xs → VRA io' F w g off xs
  | [], _, _, _, _ => by simp only [VRA]
  | x :: xs, g, off, hk, h => by
      simp only [V.refsL, List.mem_append] at hk
      simp only [VRA] at h ⊢
      obtain ⟨⟨v, e, h0, h1⟩, h2⟩ := h
      exact ⟨⟨v, e, h0, VR.agree x v (fun k h => hk k (.inl h)) h1⟩, VRA.agree xs _ _ (fun k h => hk k (.inr h)) h2⟩
theorem VRT.agree : ∀ (xs : List V) (g : Nat → Option Value) (off : Nat), (∀ k ∈ V.refsL xs, io'.io k = io.io k ∧ io.ln k ≤ io'.ln k) → VRT io F w g off xs → VRT io' F w g off xs
  | [], _, _, _, _ => by simp only [VRT]
  | x :: xs, g, off, hk, h => by
      simp only [V.refsL, List.mem_append] at hk
      simp only [VRT] at h ⊢
      obtain ⟨⟨v, e, h1⟩, h2⟩ := h
      exact ⟨⟨v, e, VR.agree x v (fun k h => hk k (.inl h)) h1⟩, VRT.agree xs _ _ (fun k h => hk k (.inr h)) h2⟩
end
end

def lnO (B : Nat → Option Blk) (k : Nat) : Nat := match B k with | some b => b.ln | none => 0
theorem lnO_eq (s : St) : s.ln = lnO s.blk := by
  funext k
  unfold lnO
  split
  · rename_i b h; exact ln_of h
  · rename_i h; simp [St.ln, h]
theorem lnO_of {B : Nat → Option Blk} {k : Nat} {b : Blk} (h : B k = some b) : lnO B k = b.ln := by unfold lnO; rw [h]
def OwnA (B : Nat → Option Blk) (io : Nat → Option Nat) : Nat → Prop := fun b => ∃ k, B k ≠ none ∧ io k = some b
structure BsR (A : Nat → Prop) (n0 : Nat) (io : Nat → Option Nat) (F : Nat → Prop) (w : World) (B : Nat → Option Blk) : Prop where
  br : ∀ k b, B k = some b → BR A n0 ⟨io, lnO B⟩ F w k b
  inj : ∀ k k' b, B k ≠ none → B k' ≠ none → io k = some b → io k' = some b → k = k'

def Blk.refs : Blk → List Nat
  | .data _ _ _ _ _ => []
  | .box _ cs => V.refsL cs
  | .hole _ _ _ _ _ _ v => v.refs

structure RetB (P : Program) (f : FuncId) (xs : List V) (B : Nat → Option Blk) (y : V) (B' : Nat → Option Blk) : Prop where
  enters : Enters P f
  keep : ∀ k, B k ≠ none → B' k ≠ none
  ln : ∀ k, B k ≠ none → lnO B k ≤ lnO B' k
  refs : ∀ k ∈ y.refs, B' k ≠ none
  refsB : ∀ k b, B' k = some b → ∀ j ∈ b.refs, B' j ≠ none
  run : ∀ (io : Nat → Option Nat) (F : Nat → Prop) (w : World) (vs : Array Value), (∀ b, F b → b < w.heap.size) → vs.size = xs.length → VRT ⟨io, lnO B⟩ F w (fun i => vs[i]?) 0 xs → BsR (OwnA B io) w.heap.size io F w B →
    Calls P f vs w fun e w' => ∃ v io' F', e = .returned v ∧ Kept (OwnA B io) w w' ∧ (∀ b, F b → F' b) ∧ (∀ b, F' b → b < w'.heap.size ∧ (F b ∨ w.heap.size ≤ b ∨ OwnA B io b)) ∧ (∀ k, B k ≠ none → io' k = io k) ∧ VR ⟨io', lnO B'⟩ F' w' y v ∧ BsR (OwnA B io) w.heap.size io' F' w' B'

theorem BR.notF {A : Nat → Prop} {n0 : Nat} {io : Keys} {F : Nat → Prop} {w : World} {k : Nat} {b : Blk} (h : BR A n0 io F w k b) {c : Nat} (e : io.io k = some c) : ¬ F c ∧ (A c ∨ n0 ≤ c) ∧ c < w.heap.size := by
  cases b with
  | data ty sz en z l =>
    simp only [BR] at h
    rcases h with ⟨h0, _⟩ | ⟨c', arr, g1, g2, g3, g4, _⟩
    · rw [h0] at e; cases e
    · rw [g1] at e; cases e; exact ⟨g2, g3, lt_of_heap g4⟩
  | box ty cells =>
    simp only [BR] at h
    obtain ⟨c', arr, g1, g2, g3, g4, _⟩ := h
    rw [g1] at e; cases e; exact ⟨g2, g3, lt_of_heap g4⟩
  | hole ty sz en z l i v =>
    simp only [BR] at h
    obtain ⟨c', arr, g1, g2, g3, g4, _⟩ := h
    rw [g1] at e; cases e; exact ⟨g2, g3, lt_of_heap g4⟩

theorem BR.agree {A A' : Nat → Prop} {n0 n0' : Nat} {io io' : Keys} {F : Nat → Prop} {w : World} {k : Nat} (hA : ∀ c, A c ∨ n0 ≤ c → A' c ∨ n0' ≤ c) (hk : io'.io k = io.io k) : ∀ {b : Blk}, (∀ j ∈ b.refs, io'.io j = io.io j ∧ io.ln j ≤ io'.ln j) → BR A n0 io F w k b → BR A' n0' io' F w k b
  | .data ty sz e z l, _, h => by
    simp only [BR] at h ⊢
    rw [hk]
    rcases h with h | ⟨b, arr, h1, h2, h3, h4, h5⟩
    · exact .inl h
    · exact .inr ⟨b, arr, h1, h2, hA _ h3, h4, h5⟩
  | .box ty cells, hj, h => by
    simp only [BR] at h ⊢
    rw [hk]
    obtain ⟨b, arr, h1, h2, h3, h4, h5⟩ := h
    exact ⟨b, arr, h1, h2, hA _ h3, h4, VRA.agree _ _ _ (by simpa only [Blk.refs] using hj) h5⟩
  | .hole ty sz e z l i v, hj, h => by
    simp only [BR] at h ⊢
    rw [hk]
    obtain ⟨b, arr, h1, h2, h3, h4, h5⟩ := h
    obtain ⟨q0, q1, u, q2, q2', q3⟩ := h5
    exact ⟨b, arr, h1, h2, hA _ h3, h4, q0, q1, u, q2, q2', VR.agree _ _ (by simpa only [Blk.refs] using hj) q3⟩

/-! ## Calling -/

def St.subs (s : St) : List Nat → St
  | [] => s
  | k :: r => (St.subs s r).sub k none
def ioSubs (io io' : Nat → Option Nat) : List Nat → Nat → Option Nat
  | [] => io
  | k :: r => updio (ioSubs io io' r) k (io' k)
theorem ioSubs_of (io io' : Nat → Option Nat) : ∀ (ks : List Nat) (k : Nat), (k ∈ ks → ioSubs io io' ks k = io' k) ∧ (k ∉ ks → ioSubs io io' ks k = io k)
  | [], k => ⟨fun h => by simp at h, fun _ => rfl⟩
  | a :: r, k => by
    obtain ⟨h1, h2⟩ := ioSubs_of io io' r k
    by_cases e : k = a
    · subst e
      exact ⟨fun _ => updio_same _ _ _, fun h => by simp at h⟩
    · refine ⟨fun h => ?_, fun h => ?_⟩
      · rw [ioSubs, updio_ne _ _ e]; exact h1 (by simpa [e] using h)
      · rw [ioSubs, updio_ne _ _ e]; exact h2 (fun h' => h (by simp [h']))
theorem SR.subs {X : Ctx} {io : Nat → Option Nat} {F : Nat → Prop} {s : St} {a : Act} {w : World} (hs : SR X io F s a w) (io' : Nat → Option Nat) : ∀ (ks : List Nat), (∀ k ∈ ks, k ∉ X.K) → SR X (ioSubs io io' ks) F (s.subs ks) a w
  | [], _ => hs
  | k :: r, h => (SR.subs hs io' r fun j hj => h j (by simp [hj])).kill k (io' k) (h k (by simp))
theorem subs_blk {s : St} : ∀ (ks : List Nat) {j : Nat} {b : Blk}, (s.subs ks).blk j = some b → j ∉ ks ∧ ∃ b0, s.blk j = some b0
  | [], j, b, h => ⟨by simp, b, h⟩
  | k :: r, j, b, h => by
    obtain ⟨hne, b0, h0, _⟩ := sub_blk h
    obtain ⟨h1, h2⟩ := subs_blk r h0
    exact ⟨by simp [hne, h1], h2⟩
theorem subs_ln {s : St} : ∀ (ks : List Nat) {j : Nat}, (s.subs ks).ln j = if j ∈ ks then 0 else s.ln j
  | [], j => by simp [St.subs]
  | k :: r, j => by
    simp only [St.subs]
    by_cases e : j = k
    · subst e; rw [sub_ln_same]; simp
    · rw [sub_ln e, subs_ln r]; simp [e]

def St.over (s : St) (bs : List (Nat × Blk)) : St := { s with blk := fun k => match lookB bs k with | some b => some b | none => s.blk k }
theorem over_ln {s : St} {bs : List (Nat × Blk)} (j : Nat) : (s.over bs).ln j = if lookB bs j = none then s.ln j else lnO (lookB bs) j := by
  rw [lnO_eq]
  unfold lnO St.over
  simp only
  cases h : lookB bs j with
  | none => simp only [if_true]; rw [lnO_eq]; rfl
  | some b => simp

def LeVT (xs ys : List V) : Prop := ys.length = xs.length ∧ ∀ io F w g off, VRT io F w g off xs → VRT io F w g off ys
theorem LeVT.nil : LeVT [] [] := ⟨rfl, fun _ _ _ _ _ h => h⟩
theorem LeVT.cons {x : V} {xs ys : List V} (h : LeVT xs ys) : LeVT (x :: xs) (x :: ys) := ⟨by simp [h.1], fun io F w g off k => by
  simp only [VRT] at k ⊢; exact ⟨k.1, h.2 _ _ _ _ _ k.2⟩⟩
theorem LeVT.consD {x y : D} {xs ys : List V} (e : LeD x y) (h : LeVT xs ys) : LeVT (.d x :: xs) (.d y :: ys) := ⟨by simp [h.1], fun io F w g off k => by
  simp only [VRT, VR] at k ⊢; obtain ⟨⟨v, k1, k2⟩, k3⟩ := k; exact ⟨⟨v, k1, e _ _ _ k2⟩, h.2 _ _ _ _ _ k3⟩⟩

section
variable {X : Ctx} {all : Array Oper} {s : St} {o : Oper} {c : Call} {f : FuncId} {caps : List V}

theorem SR.afterB (fr : List Nat) {io : Nat → Option Nat} {F : Nat → Prop} {a : Act} {w : World} (hs : SR X io F s a w) {B : Nat → Option Blk} {bs' : List (Nat × Blk)} (hB : ∀ k b, B k = some b → s.blk k = some b) (hkeep : ∀ k, B k ≠ none → lookB bs' k ≠ none) (hlnm : ∀ k, B k ≠ none → lnO B k ≤ lnO (lookB bs') k) (hrefsB : ∀ k b, lookB bs' k = some b → ∀ j ∈ b.refs, lookB bs' j ≠ none) (hfr : ∀ k, lookB bs' k ≠ none → B k ≠ none ∨ k ∈ fr) (hfr2 : ∀ k ∈ fr, k ∉ X.K ∧ B k = none) {w' : World} {io' : Nat → Option Nat} {F' : Nat → Prop} (g1 : Kept (OwnA B io) w w') (g2 : ∀ b, F b → F' b) (g3 : ∀ b, F' b → b < w'.heap.size ∧ (F b ∨ w.heap.size ≤ b ∨ OwnA B io b)) (g4 : ∀ k, B k ≠ none → io' k = io k) (g6 : BsR (OwnA B io) w.heap.size io' F' w' (lookB bs')) :
    SR X (ioSubs io io' fr) F' ((s.subs fr).over bs') a w' ∧ ∀ k, lookB bs' k ≠ none → ioSubs io io' fr k = io' k ∧ lnO (lookB bs') k ≤ ((s.subs fr).over bs').ln k := by
  have hln : ∀ k, B k ≠ none → s.ln k ≤ lnO B k := fun k hk => by
    obtain ⟨b, hb⟩ := Option.ne_none_iff_exists'.1 hk
    rw [lnO_of hb, ln_of (hB k b hb)]; exact Nat.le_refl _
  have hs1 := hs.subs io' fr (fun k hk => (hfr2 k hk).1)
  have hio1 : ∀ k, lookB bs' k ≠ none → ioSubs io io' fr k = io' k := fun k hk => by
    by_cases e : k ∈ fr
    · exact (ioSubs_of io io' fr k).1 e
    · rw [(ioSubs_of io io' fr k).2 e]
      exact (g4 k ((hfr k hk).resolve_right e)).symm
  have hA : ∀ c, OwnA B io c → X.A c ∨ X.w0.heap.size ≤ c := fun c ⟨k, hk, e⟩ => by
    obtain ⟨b, hb⟩ := Option.ne_none_iff_exists'.1 hk
    exact ((hs.bl k b (hB k b hb)).notF e).2.1
  have hAF : ∀ c, OwnA B io c → ¬ F c := fun c ⟨k, hk, e⟩ => by
    obtain ⟨b, hb⟩ := Option.ne_none_iff_exists'.1 hk
    exact ((hs.bl k b (hB k b hb)).notF e).1
  have hArea : ∀ c, OwnA B io c ∨ w.heap.size ≤ c → X.A c ∨ X.w0.heap.size ≤ c := fun c h => h.elim (hA c) (fun h => .inr (Nat.le_trans hs.kept.size h))
  have hst : Stays F w w' := fun b h => g1.block b (hs.ff b h).1 (fun h' => hAF b h' h)
  have hoth : ∀ j c, s.blk j ≠ none → B j = none → io j = some c → ¬ OwnA B io c ∧ c < w.heap.size := fun j c hj hBj e => by
    obtain ⟨b, hb⟩ := Option.ne_none_iff_exists'.1 hj
    refine ⟨fun ⟨k, hk, e'⟩ => ?_, ((hs.bl j b hb).notF e).2.2⟩
    obtain ⟨b2, hb2⟩ := Option.ne_none_iff_exists'.1 hk
    have := hs.inj j k c hj (by rw [hB k b2 hb2]; simp) e e'
    rw [this] at hBj; exact hk hBj
  have hlt : ∀ j, s.ln j ≤ lnO B j ∨ B j = none := fun j => by
    by_cases e : B j = none
    · exact .inr e
    · exact .inl (hln j e)
  have hi : ∀ k, (((s.subs fr).over bs').keys (ioSubs io io' fr)).io k = ((s.subs fr).keys (ioSubs io io' fr)).io k ∧ ((s.subs fr).keys (ioSubs io io' fr)).ln k ≤ (((s.subs fr).over bs').keys (ioSubs io io' fr)).ln k := fun k => ⟨rfl, by
    show (s.subs fr).ln k ≤ ((s.subs fr).over bs').ln k
    rw [over_ln]
    split
    · exact Nat.le_refl _
    · rename_i hk
      rw [subs_ln]
      split
      · exact Nat.zero_le _
      · rename_i hk2
        have hBk := (hfr k hk).resolve_right hk2
        exact Nat.le_trans (hln k hBk) (hlnm k hBk)⟩
  have hlnB : ∀ k, lookB bs' k ≠ none → lnO (lookB bs') k ≤ ((s.subs fr).over bs').ln k := fun k hk => by rw [over_ln, if_neg hk]; exact Nat.le_refl _
  have hov : ∀ k, lookB bs' k ≠ none → ((s.subs fr).over bs').blk k = lookB bs' k := fun k hk => by
    obtain ⟨b, hb⟩ := Option.ne_none_iff_exists'.1 hk
    simp only [St.over, hb]
  have hov2 : ∀ k, lookB bs' k = none → ((s.subs fr).over bs').blk k = (s.subs fr).blk k := fun k hk => by simp only [St.over, hk]
  have key : SR X (ioSubs io io' fr) F' ((s.subs fr).over bs') a w' := by
    refine ⟨⟨g1.os.trans hs.kept.os, g1.tape.trans hs.kept.tape, g1.output.trans hs.kept.output, Nat.le_trans hs.kept.size g1.size, fun b e1 e2 => ?_, hs.kept.shape.trans g1.shape⟩, fun t => VR.mono hi g2 hst g1.shape _ _ (hs1.tm t), hs1.nt, DfR.mono hi g2 hst g1.shape _ _ hs1.df, fun k b hk => ?_, fun k k' b e1 e2 e3 e4 => ?_, fun b hb => ?_, fun b hb => g2 b (hs.f0 b hb), hs1.st⟩
    · rw [g1.block b (Nat.lt_of_lt_of_le e1 hs.kept.size) (fun h => by rcases hA b h with h | h; exact e2 h; omega)]
      exact hs.kept.block b e1 e2
    · by_cases e : lookB bs' k = none
      · rw [hov2 k e] at hk
        obtain ⟨q1, b0, q2⟩ := subs_blk fr hk
        have hBk : B k = none := by
          by_cases h : B k = none
          · exact h
          · exact absurd e (hkeep k h)
        refine BR.mono hi g2 hst g1.shape (fun c o' e1 e2 e3 => ?_) (hs1.bl k b hk)
        have e1' : io k = some c := by rw [← (ioSubs_of io io' fr k).2 q1]; exact e1
        obtain ⟨p1, p2⟩ := hoth k c (by rw [q2]; simp) hBk e1'
        refine ⟨(g1.block c p2 p1).trans e2, fun h => ?_⟩
        rcases (g3 c h).2 with h | h | h
        · exact e3 h
        · omega
        · exact p1 h
      · rw [hov k e] at hk
        exact BR.agree (io := ⟨io', lnO (lookB bs')⟩) hArea (hio1 k e) (fun j hj => ⟨hio1 j (hrefsB k b hk j hj), hlnB j (hrefsB k b hk j hj)⟩) (g6.br k b hk)
    · by_cases h1 : lookB bs' k = none
      · by_cases h2 : lookB bs' k' = none
        · rw [hov2 k h1] at e1
          rw [hov2 k' h2] at e2
          exact hs1.inj k k' b e1 e2 e3 e4
        · exfalso
          rw [hov2 k h1] at e1
          obtain ⟨b1, hb1⟩ := Option.ne_none_iff_exists'.1 e1
          obtain ⟨q1, b0, q2⟩ := subs_blk fr hb1
          have hBk : B k = none := by
            by_cases h : B k = none
            · exact h
            · exact absurd h1 (hkeep k h)
          rw [(ioSubs_of io io' fr k).2 q1] at e3
          obtain ⟨p1, p2⟩ := hoth k b (by rw [q2]; simp) hBk e3
          rw [hio1 k' h2] at e4
          obtain ⟨b2, hb2⟩ := Option.ne_none_iff_exists'.1 h2
          rcases ((g6.br k' b2 hb2).notF e4).2.1 with h | h
          · exact p1 h
          · omega
      · by_cases h2 : lookB bs' k' = none
        · exfalso
          rw [hov2 k' h2] at e2
          obtain ⟨b1, hb1⟩ := Option.ne_none_iff_exists'.1 e2
          obtain ⟨q1, b0, q2⟩ := subs_blk fr hb1
          have hBk : B k' = none := by
            by_cases h : B k' = none
            · exact h
            · exact absurd h2 (hkeep k' h)
          rw [(ioSubs_of io io' fr k').2 q1] at e4
          obtain ⟨p1, p2⟩ := hoth k' b (by rw [q2]; simp) hBk e4
          rw [hio1 k h1] at e3
          obtain ⟨b2, hb2⟩ := Option.ne_none_iff_exists'.1 h1
          rcases ((g6.br k b2 hb2).notF e3).2.1 with h | h
          · exact p1 h
          · omega
        · rw [hio1 k h1] at e3
          rw [hio1 k' h2] at e4
          exact g6.inj k k' b h1 h2 e3 e4
    · obtain ⟨q1, q2⟩ := g3 b hb
      refine ⟨q1, ?_⟩
      rcases q2 with h | h | h
      · exact (hs.ff b h).2
      · exact .inr (.inl (Nat.le_trans hs.kept.size h))
      · rcases hA b h with h | h
        · exact .inr (.inr h)
        · exact .inr (.inl h)
  exact ⟨key, fun k hk => ⟨hio1 k hk, hlnB k hk⟩⟩

theorem SR.lendB {io : Nat → Option Nat} {F : Nat → Prop} {a : Act} {w : World} (hs : SR X io F s a w) {B : Nat → Option Blk} (hB : ∀ k b, B k = some b → s.blk k = some b) (hBr : ∀ k b, B k = some b → ∀ j ∈ b.refs, B j ≠ none) : BsR (OwnA B io) w.heap.size io F w B := by
  have hln : ∀ k, B k ≠ none → s.ln k ≤ lnO B k := fun k hk => by
    obtain ⟨b, hb⟩ := Option.ne_none_iff_exists'.1 hk
    rw [lnO_of hb, ln_of (hB k b hb)]; exact Nat.le_refl _
  exact ⟨fun k b hk => by
    have := hs.bl k b (hB k b hk)
    have hk' : B k ≠ none := by rw [hk]; simp
    have h0 := BR.agree (io := s.keys io) (A' := fun _ => True) (n0' := 0) (io' := ⟨io, lnO B⟩) (fun c _ => .inl trivial) rfl (fun j hj => ⟨rfl, hln j (hBr k b hk j hj)⟩) this
    cases b with
    | data ty sz e z l =>
      simp only [BR] at h0 ⊢
      rcases h0 with h | ⟨b, arr, g1, g2, g3, g4, g5⟩
      · exact .inl h
      · exact .inr ⟨b, arr, g1, g2, .inl ⟨k, hk', g1⟩, g4, g5⟩
    | box ty cells =>
      simp only [BR] at h0 ⊢
      obtain ⟨b, arr, g1, g2, g3, g4, g5⟩ := h0
      exact ⟨b, arr, g1, g2, .inl ⟨k, hk', g1⟩, g4, g5⟩
    | hole ty sz e z l i v =>
      simp only [BR] at h0 ⊢
      obtain ⟨b, arr, g1, g2, g3, g4, g5⟩ := h0
      exact ⟨b, arr, g1, g2, .inl ⟨k, hk', g1⟩, g4, g5⟩,
    fun k k' b e1 e2 e3 e4 => by
      obtain ⟨b1, hb1⟩ := Option.ne_none_iff_exists'.1 e1
      obtain ⟨b2, hb2⟩ := Option.ne_none_iff_exists'.1 e2
      exact hs.inj k k' b (by rw [hB k b1 hb1]; simp) (by rw [hB k' b2 hb2]; simp) e3 e4⟩

theorem e_callB (fr : List Nat) (hg : gd all s o = some true) (hd : dstOk X.N o.dst = true) (hop : o.op = .call c) (hc : calleeOf s c = some (f, caps)) {xs : List V} (le : LeVT (c.args.toList.map s.opd ++ caps) xs) {B : Nat → Option Blk} {bs' : List (Nat × Blk)} {y : V} (hr : RetB X.P f xs B y (lookB bs')) (hB : ∀ k b, B k = some b → s.blk k = some b) (hxr : ∀ k ∈ V.refsL xs, B k ≠ none) (hBr : ∀ k b, B k = some b → ∀ j ∈ b.refs, B j ≠ none) (hfr : ∀ k, lookB bs' k ≠ none → B k ≠ none ∨ k ∈ fr) (hfr2 : ∀ k ∈ fr, k ∉ X.K ∧ B k = none) : E1 X all s o (((s.subs fr).over bs').put o.dst y) := fun io F a w hs K Q hK => by
  obtain ⟨vs, h1, h2, h3⟩ := run_call (P := X.P) (operands_of (all := all) (fun t _ => hs.tm t)) hop hc hr.enters
  unfold opWp
  rw [if_pos (gd_sound (fun t _ => hs.tm t) hg)]; left
  unfold Oper.wp; rw [h1]
  simp only [Oper.upon]
  have hln : ∀ k, B k ≠ none → s.ln k ≤ lnO B k := fun k hk => by
    obtain ⟨b, hb⟩ := Option.ne_none_iff_exists'.1 hk
    rw [lnO_of hb, ln_of (hB k b hb)]; exact Nat.le_refl _
  have hargs : VRT ⟨io, lnO B⟩ F w (fun i => vs[i]?) 0 xs := VRT.agree (io := s.keys io) _ _ _ (fun k hk => ⟨rfl, hln k (hxr k hk)⟩) (le.2 _ _ _ _ _ h3)
  have hbl := hs.lendB hB hBr
  refine (hr.run io F w vs (fun b h => (hs.ff b h).1) (by rw [h2, le.1]) hargs hbl).mono fun e w' ⟨v, io', F', he, g1, g2, g3, g4, g5, g6⟩ => ?_
  subst he
  obtain ⟨key, hkk⟩ := hs.afterB fr hB hr.keep hr.ln hr.refsB hfr hfr2 g1 g2 g3 g4 g6
  refine hK (ioSubs io io' fr) F' _ _ (key.put (dstOk_sound hd) (VR.agree (io := ⟨io', lnO (lookB bs')⟩) _ _ (fun k hk => hkk k (hr.refs k hk)) g5))
end

/-! ## Leaving -/

def St.initB (xs : List V) (bs : List (Nat × Blk)) : St := { tmps := fun t => nth (.d .undef) xs t, blk := lookB bs, dfs := [] }
def OneLe (ys : List V) (y : V) : Prop := (∃ x, ys = [x] ∧ LeVT [x] [y]) ∨ (ys.length ≠ 1 ∧ ∃ zs, y = .tup zs ∧ LeVT ys zs)
def retPostB (T : TypeId → Option TyD) (fn : Func) (y : V) (bs' : List (Nat × Blk)) : Exit → St → Prop
  | .normal, s | .ret, s => s.dfs = [] ∧ (∃ ys, resAll T s fn.results.toList = some ys ∧ OneLe ys y) ∧ AllB s bs'
  | _, _ => False
def coverR (bs : List (Nat × Blk)) : List (Nat × Blk) → Bool
  | [] => true
  | (_, b) :: r => keysOk bs b.refs && coverR bs r
theorem hasKey_ne {bs : List (Nat × Blk)} {k : Nat} (h : hasKey bs k = true) : lookB bs k ≠ none := by
  unfold hasKey at h
  split at h
  · rename_i b hb; rw [hb]; simp
  · cases h
theorem lookB_mem {bs : List (Nat × Blk)} {k : Nat} {b : Blk} : lookB bs k = some b → (k, b) ∈ bs := by
  induction bs with
  | nil => intro h; simp [lookB] at h
  | cons p r ih =>
    obtain ⟨k', v⟩ := p
    intro h
    simp only [lookB] at h
    cases hb : Nat.beq k k' with
    | true => have := Nat.eq_of_beq_eq_true hb; subst this; rw [hb] at h; simp at h; simp [h]
    | false => rw [hb] at h; exact List.mem_cons_of_mem _ (ih (by simpa using h))
theorem coverR_spec {bs : List (Nat × Blk)} : ∀ {l : List (Nat × Blk)}, coverR bs l = true → ∀ p ∈ l, ∀ j ∈ p.2.refs, lookB bs j ≠ none
  | [], _, p, h => by simp at h
  | (a, v) :: l, h, p, hp => by
    simp only [coverR, Bool.and_eq_true] at h
    rcases List.mem_cons.1 hp with rfl | hp
    · exact fun j hj => hasKey_ne (keysOk_spec h.1 j hj)
    · exact coverR_spec h.2 p hp
def LnLe (bs' : List (Nat × Blk)) : List (Nat × Blk) → Prop
  | [] => True
  | (k, b) :: r => b.ln ≤ lnO (lookB bs') k ∧ LnLe bs' r
theorem LnLe_spec {bs' : List (Nat × Blk)} : ∀ {l : List (Nat × Blk)}, LnLe bs' l → ∀ p ∈ l, p.2.ln ≤ lnO (lookB bs') p.1
  | [], _, p, h => by simp at h
  | (a, v) :: l, h, p, hp => by
    rcases List.mem_cons.1 hp with rfl | hp
    · exact h.1
    · exact LnLe_spec h.2 p hp

theorem sr_initB {P : Program} {T : TypeId → Option TyD} (hT : TabOk P T) {N : Nat} {w : World} {io : Nat → Option Nat} {F : Nat → Prop} {xs : List V} {bs : List (Nat × Blk)} {ks : List Nat} {vs : Array Value} (hl : vs.size = xs.length) (hn : xs.length ≤ N) (hF : ∀ b, F b → b < w.heap.size) (hv : VRT ⟨io, lnO (lookB bs)⟩ F w (fun i => vs[i]?) 0 xs) (hbs : BsR (OwnA (lookB bs) io) w.heap.size io F w (lookB bs)) : SR ⟨P, T, hT, N, w, OwnA (lookB bs) io, F, ks, io⟩ io F (St.initB xs bs) { tmps := vs ++ Array.replicate (N - vs.size) undef, defers := [] } w := by
  have hk : (St.initB xs bs).keys io = ⟨io, lnO (lookB bs)⟩ := by unfold St.keys; rw [lnO_eq]; rfl
  refine ⟨⟨rfl, rfl, rfl, Nat.le_refl _, fun _ _ _ => rfl, Shapes.refl _⟩, fun t => ?_, by simp; omega, rfl, fun k b h => by rw [hk]; exact hbs.br k b h, hbs.inj, fun b h => ⟨hF b h, .inl h⟩, fun b h => h, fun k hk => rfl⟩
  rw [hk]
  simp only [St.initB]
  by_cases ht : t < vs.size
  · have hx := List.getElem?_eq_getElem (show t < xs.length by omega)
    obtain ⟨v, h1, h2⟩ := VRT_iff.1 hv t _ hx
    simp only [Nat.zero_add] at h1
    rw [nth_of hx]
    have : (vs ++ Array.replicate (N - vs.size) undef).getD t undef = v := by
      rw [Array.getD_eq_getD_getElem?, Array.getElem?_append_left ht, h1]; rfl
    rw [this]; exact h2
  · rw [nth_none (by omega)]; simp only [VR, DR]

def RetPost (io : Nat → Option Nat) (F : Nat → Prop) (w : World) (bs : List (Nat × Blk)) (y : V) (bs' : List (Nat × Blk)) : Ending → World → Prop := fun e w' => ∃ v io' F', e = .returned v ∧ Kept (OwnA (lookB bs) io) w w' ∧ (∀ b, F b → F' b) ∧ (∀ b, F' b → b < w'.heap.size ∧ (F b ∨ w.heap.size ≤ b ∨ OwnA (lookB bs) io b)) ∧ (∀ k, lookB bs k ≠ none → io' k = io k) ∧ VR ⟨io', lnO (lookB bs')⟩ F' w' y v ∧ BsR (OwnA (lookB bs) io) w.heap.size io' F' w' (lookB bs')
theorem retB_fin {P : Program} {T : TypeId → Option TyD} {hT : TabOk P T} {fn : Func} {N : Nat} {ks : List Nat} {bs bs' : List (Nat × Blk)} {y : V} (hks : bs.map (·.1) = ks) (hcov : (keysOk bs' ks && keysOk bs' y.refs && coverR bs' bs') = true) {io io' : Nat → Option Nat} {F F' : Nat → Prop} {w w' : World} {s' : St} {a' : Act} (hs' : SR ⟨P, T, hT, N, w, OwnA (lookB bs) io, F, ks, io⟩ io' F' s' a' w') (hq : s'.dfs = [] ∧ (∃ ys, resAll T s' fn.results.toList = some ys ∧ OneLe ys y) ∧ AllB s' bs') : a'.defers = [] ∧ ∃ v, (results fn a'.tmps).run P w' = .ok v w' ∧ RetPost io F w bs y bs' (.returned v) w' := by
  simp only [Bool.and_eq_true] at hcov
  obtain ⟨⟨c1, c2⟩, c3⟩ := hcov
  have hkey : ∀ k, lookB bs k ≠ none → k ∈ ks := fun k hk => by
    obtain ⟨b, hb⟩ := Option.ne_none_iff_exists'.1 hk
    rw [← hks]; exact List.mem_map.2 ⟨_, lookB_mem hb, rfl⟩
  obtain ⟨hd, ⟨ys, h1, h2⟩, h3⟩ := hq
  obtain ⟨vs', hvs, hl', hd'⟩ := resAll_sound hT hs' _ h1
  have hln' : ∀ k, lookB bs' k ≠ none → s'.ln k ≤ lnO (lookB bs') k := fun k hk => by
    obtain ⟨b, hb⟩ := Option.ne_none_iff_exists'.1 hk
    rw [ln_of (lookB_of h3 k b hb).1, lnO_of hb]; exact Nat.le_refl _
  have hag : ∀ k ∈ y.refs, io' k = io' k ∧ s'.ln k ≤ lnO (lookB bs') k := fun k hk => ⟨rfl, hln' k (hasKey_ne (keysOk_spec c2 k hk))⟩
  have hdf := hs'.df
  rw [hd] at hdf
  have hbs' : BsR (OwnA (lookB bs) io) w.heap.size io' F' w' (lookB bs') := ⟨fun k b hk => BR.agree (io := s'.keys io') (io' := ⟨io', lnO (lookB bs')⟩) (fun _ h => h) rfl (fun j hj => ⟨rfl, hln' j (coverR_spec c3 _ (lookB_mem hk) j hj)⟩) (hs'.bl k b (lookB_of h3 k b hk).1), fun k k' b e1 e2 e3 e4 => by
    obtain ⟨b1, hb1⟩ := Option.ne_none_iff_exists'.1 e1
    obtain ⟨b2, hb2⟩ := Option.ne_none_iff_exists'.1 e2
    exact hs'.inj k k' b (by rw [(lookB_of h3 k b1 hb1).1]; simp) (by rw [(lookB_of h3 k' b2 hb2).1]; simp) e3 e4⟩
  refine ⟨hdf, _, run_results fn hvs, _, io', F', rfl, hs'.kept, hs'.f0, hs'.ff, fun k hk => hs'.st k (hkey k hk), ?_, hbs'⟩
  rcases h2 with ⟨x, rfl, hx⟩ | ⟨hne, zs, rfl, hz⟩
  · obtain ⟨v, rfl⟩ := List.length_eq_one_iff.1 (show vs'.length = 1 by simpa using hl')
    have := hx.2 _ _ _ _ _ hd'
    simp only [VRT] at this
    obtain ⟨⟨u, hu, hd2⟩, _⟩ := this
    simp at hu; subst hu
    exact VR.agree (io := s'.keys io') _ _ hag hd2
  · have hn1 : vs'.length ≠ 1 := by rw [hl']; exact hne
    have := hz.2 _ _ _ _ _ hd'
    refine VR.agree (io := s'.keys io') _ _ hag ?_
    rw [dif_neg hn1]
    simp only [VR]
    exact ⟨vs'.toArray, rfl, by simp; rw [hl', hz.1], by simpa using this⟩
theorem retB_of_awp {P : Program} {T : TypeId → Option TyD} (hT : TabOk P T) {f : FuncId} {fn : Func} {c : Code} (ks : List Nat) (hf : P.funcs[f]? = some fn) (hname : (fn.name == "runtime.NumGoroutine") = false) (hb : fn.body = some c) {xs : List V} {bs bs' : List (Nat × Blk)} {y : V} (hks : bs.map (·.1) = ks) (hn : xs.length ≤ fn.ntmps) (hcov : (keysOk bs' ks && keysOk bs' y.refs && coverR bs' bs') = true) (hln : LnLe bs' bs)
    (h : ∀ w0 F0 A io0, awp ⟨P, T, hT, fn.ntmps, w0, A, F0, ks, io0⟩ c (retPostB T fn y bs') (St.initB xs bs)) : RetB P f xs (lookB bs) y (lookB bs') := by
  simp only [Bool.and_eq_true] at hcov
  obtain ⟨⟨c1, c2⟩, c3⟩ := hcov
  have hkey : ∀ k, lookB bs k ≠ none → k ∈ ks := fun k hk => by
    obtain ⟨b, hb⟩ := Option.ne_none_iff_exists'.1 hk
    rw [← hks]; exact List.mem_map.2 ⟨_, lookB_mem hb, rfl⟩
  refine ⟨⟨fn, hf, hname, by rw [hb]; rfl⟩, fun k hk => hasKey_ne (keysOk_spec c1 k (hkey k hk)), fun k hk => ?_, fun k hk => hasKey_ne (keysOk_spec c2 k hk), fun k b hk j hj => coverR_spec c3 _ (lookB_mem hk) j hj, fun io F w vs hF hl hv hbs => ?_⟩
  · obtain ⟨b, hb⟩ := Option.ne_none_iff_exists'.1 hk
    rw [lnO_of hb]
    exact LnLe_spec hln _ (lookB_mem hb)
  refine calls_of_wp hf hb ?_
  refine wp_mono (h w F _ io io F _ w (sr_initB hT (ks := ks) hl hn hF hv hbs)) fun e a' w' ⟨s', io', F', hq, hs'⟩ => ?_
  cases e <;> simp only [retPostB] at hq <;> first | exact hq.elim | exact retB_fin hks (by simp only [Bool.and_eq_true]; exact ⟨⟨c1, c2⟩, c3⟩) hs' hq

theorem finB {T : TypeId → Option TyD} {fn : Func} {y x : V} {bs' : List (Nat × Blk)} {s : St} (hd : s.dfs = []) (h : resAll T s fn.results.toList = some [x]) (hle : LeVT [x] [y]) (hB : AllB s bs') : retPostB T fn y bs' .ret s := ⟨hd, ⟨_, h, .inl ⟨x, rfl, hle⟩⟩, hB⟩
theorem finBT {T : TypeId → Option TyD} {fn : Func} {ys zs : List V} {bs' : List (Nat × Blk)} {s : St} (hd : s.dfs = []) (h : resAll T s fn.results.toList = some ys) (hn : Nat.beq ys.length 1 = false) (hle : LeVT ys zs) (hB : AllB s bs') : retPostB T fn (.tup zs) bs' .ret s := ⟨hd, ⟨_, h, .inr ⟨beq_ne hn, zs, rfl, hle⟩⟩, hB⟩

/-! ## Keys under other names -/

mutual
def V.ren (σ : Nat → Nat) : V → V
  | .own k o n ty sz => .own (σ k) o n ty sz
  | .ptr k o => .ptr (σ k) o
  | .eptr k sz i f => .eptr (σ k) sz i f
  | .agg cs => .agg (V.renL σ cs)
  | .tup cs => .tup (V.renL σ cs)
  | .fn f cs => .fn f (V.renL σ cs)
  | .d x => .d x
def V.renL (σ : Nat → Nat) : List V → List V
  | [] => []
  | x :: xs => V.ren σ x :: V.renL σ xs
end
theorem V.renL_len (σ : Nat → Nat) : ∀ l, (V.renL σ l).length = l.length
  | [] => rfl
  | x :: xs => by simp [V.renL, V.renL_len σ xs]
section
variable {io : Keys} {σ : Nat → Nat} {F : Nat → Prop} {w : World}
mutual
theorem VR.ren : ∀ (x : V) (v : Value), VR ⟨fun k => io.io (σ k), fun k => io.ln (σ k)⟩ F w x v ↔ VR io F w (x.ren σ) v
  | .d x, v => by simp only [V.ren, VR]
  | .own k o n ty sz, v => by simp only [V.ren, VR]
  | .ptr k o, v => by simp only [V.ren, VR]
  | .eptr k sz i f, v => by simp only [V.ren, VR]
  | .agg cs, v => by
    simp only [V.ren, VR, V.renL_len]
    exact ⟨fun ⟨a, e, l, h⟩ => ⟨a, e, l, (VRA.ren cs _ _).1 h⟩, fun ⟨a, e, l, h⟩ => ⟨a, e, l, (VRA.ren cs _ _).2 h⟩⟩
  | .tup cs, v => by
    simp only [V.ren, VR, V.renL_len]
    exact ⟨fun ⟨a, e, l, h⟩ => ⟨a, e, l, (VRT.ren cs _ _).1 h⟩, fun ⟨a, e, l, h⟩ => ⟨a, e, l, (VRT.ren cs _ _).2 h⟩⟩
  | .fn f cs, v => by
    simp only [V.ren, VR, V.renL_len]
    exact ⟨fun ⟨a, e, l, h⟩ => ⟨a, e, l, (VRA.ren cs _ _).1 h⟩, fun ⟨a, e, l, h⟩ => ⟨a, e, l, (VRA.ren cs _ _).2 h⟩⟩
theorem VRA.ren : ∀ (xs : List V) (g : Nat → Option Value) (off : Nat), VRA ⟨fun k => io.io (σ k), fun k => io.ln (σ k)⟩ F w g off xs ↔ VRA io F w g off (V.renL σ xs)
  | [], _, _ => by simp only [V.renL, VRA]
  | x :: xs, g, off => by
    simp only [V.renL, VRA]
    exact ⟨fun ⟨⟨v, e, h0, h1⟩, h2⟩ => ⟨⟨v, e, h0, (VR.ren x v).1 h1⟩, (VRA.ren xs _ _).1 h2⟩, fun ⟨⟨v, e, h0, h1⟩, h2⟩ => ⟨⟨v, e, h0, (VR.ren x v).2 h1⟩, (VRA.ren xs _ _).2 h2⟩⟩
theorem VRT.ren : ∀ (xs : List V) (g : Nat → Option Value) (off : Nat), VRT ⟨fun k => io.io (σ k), fun k => io.ln (σ k)⟩ F w g off xs ↔ VRT io F w g off (V.renL σ xs)
  | [], _, _ => by simp only [V.renL, VRT]
  | x :: xs, g, off => by
    simp only [V.renL, VRT]
    exact ⟨fun ⟨⟨v, e, h1⟩, h2⟩ => ⟨⟨v, e, (VR.ren x v).1 h1⟩, (VRT.ren xs _ _).1 h2⟩, fun ⟨⟨v, e, h1⟩, h2⟩ => ⟨⟨v, e, (VR.ren x v).2 h1⟩, (VRT.ren xs _ _).2 h2⟩⟩
end
end
def Blk.ren (σ : Nat → Nat) : Blk → Blk
  | .data ty sz e z l => .data ty sz e z l
  | .box ty cs => .box ty (V.renL σ cs)
  | .hole ty sz e z l i v => .hole ty sz e z l i (V.ren σ v)
theorem Blk.ren_ln (σ : Nat → Nat) (b : Blk) : (b.ren σ).ln = b.ln := by cases b <;> rfl
theorem BR.ren {A : Nat → Prop} {n0 : Nat} {io : Keys} {σ : Nat → Nat} {F : Nat → Prop} {w : World} {k : Nat} {b : Blk} : BR A n0 ⟨fun k => io.io (σ k), fun k => io.ln (σ k)⟩ F w k b ↔ BR A n0 io F w (σ k) (b.ren σ) := by
  cases b with
  | data ty sz e z l => simp only [Blk.ren, BR]
  | box ty cs => simp only [Blk.ren, BR, VRA.ren]
  | hole ty sz e z l i v => simp only [Blk.ren, BR, HRA, VR.ren]
mutual
theorem V.ren_refs (σ : Nat → Nat) : ∀ (x : V) (k : Nat), k ∈ (x.ren σ).refs ↔ ∃ j ∈ x.refs, σ j = k
  | .d x, k => by simp [V.ren, V.refs]
  | .own j o n ty sz, k => by simp [V.ren, V.refs, eq_comm]
  | .ptr j o, k => by simp [V.ren, V.refs, eq_comm]
  | .eptr j sz i f, k => by simp [V.ren, V.refs, eq_comm]
  | .agg cs, k => by simp only [V.ren, V.refs]; exact V.renL_refs σ cs k
  | .tup cs, k => by simp only [V.ren, V.refs]; exact V.renL_refs σ cs k
  | .fn f cs, k => by simp only [V.ren, V.refs]; exact V.renL_refs σ cs k
theorem V.renL_refs (σ : Nat → Nat) : ∀ (xs : List V) (k : Nat), k ∈ V.refsL (V.renL σ xs) ↔ ∃ j ∈ V.refsL xs, σ j = k
  | [], k => by simp [V.renL, V.refsL]
  | x :: xs, k => by
    simp only [V.renL, V.refsL, List.mem_append, V.ren_refs σ x k, V.renL_refs σ xs k]
    exact ⟨fun h => h.elim (fun ⟨j, h1, h2⟩ => ⟨j, .inl h1, h2⟩) (fun ⟨j, h1, h2⟩ => ⟨j, .inr h1, h2⟩), fun ⟨j, h1, h2⟩ => h1.elim (fun h => .inl ⟨j, h, h2⟩) (fun h => .inr ⟨j, h, h2⟩)⟩
end
theorem Blk.ren_refs (σ : Nat → Nat) (b : Blk) (k : Nat) : k ∈ (b.ren σ).refs ↔ ∃ j ∈ b.refs, σ j = k := by
  cases b with
  | data ty sz e z l => simp [Blk.ren, Blk.refs]
  | box ty cs => simp only [Blk.ren, Blk.refs]; exact V.renL_refs σ cs k
  | hole ty sz e z l i v => simp only [Blk.ren, Blk.refs]; exact V.ren_refs σ v k

def renO (σ τ : Nat → Nat) (B : Nat → Option Blk) (k : Nat) : Option Blk := (B (τ k)).map (Blk.ren σ)
theorem RetB.renO {P : Program} {f : FuncId} {xs : List V} {B B' : Nat → Option Blk} {y : V} (h : RetB P f xs B y B') {σ τ : Nat → Nat} (h1 : ∀ k, σ (τ k) = k) (h2 : ∀ k, τ (σ k) = k) : RetB P f (V.renL σ xs) (renO σ τ B) (V.ren σ y) (renO σ τ B') := by
  have ne : ∀ (B : Nat → Option Blk) k, Vw.renO σ τ B k ≠ none ↔ B (τ k) ≠ none := fun B k => by simp [Vw.renO]
  have ln : ∀ (B : Nat → Option Blk) k, lnO (Vw.renO σ τ B) k = lnO B (τ k) := fun B k => by
    unfold lnO Vw.renO
    cases B (τ k) with
    | none => rfl
    | some b => exact Blk.ren_ln σ b
  have lnf : ∀ (B : Nat → Option Blk), (fun k => lnO (Vw.renO σ τ B) (σ k)) = lnO B := fun B => by funext k; rw [ln, h2]
  have ow : ∀ io, OwnA (Vw.renO σ τ B) io = OwnA B (fun k => io (σ k)) := fun io => by
    funext b
    apply propext
    constructor
    · rintro ⟨k, e1, e2⟩
      exact ⟨τ k, (ne B k).1 e1, by simp only [h1]; exact e2⟩
    · rintro ⟨k, e1, e2⟩
      exact ⟨σ k, (ne B (σ k)).2 (by rw [h2]; exact e1), e2⟩
  have bs : ∀ (A : Nat → Prop) n0 (io : Nat → Option Nat) F w (B : Nat → Option Blk), BsR A n0 io F w (Vw.renO σ τ B) ↔ BsR A n0 (fun k => io (σ k)) F w B := fun A n0 io F w B => by
    constructor
    · intro hb
      refine ⟨fun k b hk => ?_, fun k k' b e1 e2 e3 e4 => ?_⟩
      · have := hb.br (σ k) (b.ren σ) (by simp [Vw.renO, h2, hk])
        have := BR.ren.2 this
        simp only [lnf] at this
        exact this
      · have := hb.inj (σ k) (σ k') b ((ne B _).2 (by rw [h2]; exact e1)) ((ne B _).2 (by rw [h2]; exact e2)) e3 e4
        have := congrArg τ this
        rwa [h2, h2] at this
    · intro hb
      refine ⟨fun k b hk => ?_, fun k k' b e1 e2 e3 e4 => ?_⟩
      · simp only [Vw.renO, Option.map_eq_some_iff] at hk
        obtain ⟨b0, e0, rfl⟩ := hk
        have := hb.br (τ k) b0 e0
        rw [← lnf B] at this
        have := BR.ren (io := ⟨io, lnO (Vw.renO σ τ B)⟩).1 this
        rwa [h1] at this
      · have := hb.inj (τ k) (τ k') b ((ne B _).1 e1) ((ne B _).1 e2) (by rw [h1]; exact e3) (by rw [h1]; exact e4)
        have := congrArg σ this
        rwa [h1, h1] at this
  refine ⟨h.enters, fun k hk => (ne B' k).2 (h.keep _ ((ne B k).1 hk)), fun k hk => by rw [ln, ln]; exact h.ln _ ((ne B k).1 hk), fun k hk => ?_, fun k b hk j hj => ?_, fun io F w vs hF hl hv hb => ?_⟩
  · obtain ⟨j, e1, rfl⟩ := (V.ren_refs σ y k).1 hk
    exact (ne B' _).2 (by rw [h2]; exact h.refs j e1)
  · simp only [Vw.renO, Option.map_eq_some_iff] at hk
    obtain ⟨b0, e0, rfl⟩ := hk
    obtain ⟨i, e1, rfl⟩ := (Blk.ren_refs σ b0 j).1 hj
    exact (ne B' _).2 (by rw [h2]; exact h.refsB _ b0 e0 i e1)
  · have hv' := (VRT.ren (io := ⟨io, lnO (Vw.renO σ τ B)⟩) xs _ _).2 hv
    simp only [lnf] at hv'
    rw [ow io] at hb ⊢
    refine (h.run (fun k => io (σ k)) F w vs hF (by rw [hl, V.renL_len]) hv' ((bs _ _ _ _ _ _).1 hb)).mono fun e w' ⟨v, io', F', he, g1, g2, g3, g4, g5, g6⟩ => ?_
    have eio : (fun k => (fun k => io' (τ k)) (σ k)) = io' := by funext k; simp only [h2]
    refine ⟨v, fun k => io' (τ k), F', he, g1, g2, g3, fun k hk => ?_, ?_, ?_⟩
    · show io' (τ k) = _
      rw [g4 _ ((ne B k).1 hk), h1]
    · refine (VR.ren (io := ⟨fun k => io' (τ k), lnO (Vw.renO σ τ B')⟩) y v).1 ?_
      simp only [lnf, h2]
      exact g5
    · refine (bs _ _ _ _ _ _).2 ?_
      rw [eio]; exact g6

theorem beq_of_ne {a b : Nat} (h : a ≠ b) : Nat.beq a b = false := by
  cases hb : Nat.beq a b with
  | true => exact absurd (Nat.eq_of_beq_eq_true hb) h
  | false => rfl
def swp (a b k : Nat) : Nat := bif Nat.beq k a then b else bif Nat.beq k b then a else k
theorem swp_swp (a b k : Nat) : swp a b (swp a b k) = k := by
  unfold swp
  by_cases h1 : k = a
  · subst h1
    simp only [Nat.beq_refl, cond_true]
    by_cases h2 : b = k
    · subst h2; simp
    · have : Nat.beq b k = false := beq_of_ne h2
      simp [this]
  · have e1 : Nat.beq k a = false := beq_of_ne h1
    by_cases h2 : k = b
    · subst h2; simp [e1]
    · have e2 : Nat.beq k b = false := beq_of_ne h2
      simp [e1, e2]
def perm : List (Nat × Nat) → Nat → Nat
  | [], k => k
  | (a, b) :: r, k => perm r (swp a b k)
def permI : List (Nat × Nat) → Nat → Nat
  | [], k => k
  | (a, b) :: r, k => swp a b (permI r k)
theorem perm_permI : ∀ l k, perm l (permI l k) = k
  | [], k => rfl
  | (a, b) :: r, k => by simp only [perm, permI, swp_swp, perm_permI r]
theorem permI_perm : ∀ l k, permI l (perm l k) = k
  | [], k => rfl
  | (a, b) :: r, k => by simp only [perm, permI, permI_perm r, swp_swp]
def renB (σ : Nat → Nat) : List (Nat × Blk) → List (Nat × Blk)
  | [] => []
  | (k, b) :: r => (σ k, b.ren σ) :: renB σ r
theorem lookB_ren {σ τ : Nat → Nat} (h1 : ∀ k, σ (τ k) = k) (h2 : ∀ k, τ (σ k) = k) : ∀ bs, Vw.renO σ τ (lookB bs) = lookB (renB σ bs)
  | [] => rfl
  | (k, b) :: r => by
    funext j
    have ih := congrFun (lookB_ren h1 h2 r) j
    simp only [Vw.renO, renB, lookB] at ih ⊢
    by_cases e : j = σ k
    · subst e; simp [h2]
    · have e1 : Nat.beq j (σ k) = false := beq_of_ne e
      have e2 : Nat.beq (τ j) k = false := by
        have : τ j ≠ k := fun e' => e (by rw [← e', h1])
        exact beq_of_ne this
      rw [e1, e2]; simpa using ih
theorem RetB.ren {P : Program} {f : FuncId} {xs : List V} {bs bs' : List (Nat × Blk)} {y : V} (h : RetB P f xs (lookB bs) y (lookB bs')) (l : List (Nat × Nat)) {xs2 : List V} {bs2 bs2' : List (Nat × Blk)} {y2 : V} (e1 : V.renL (perm l) xs = xs2 := by rfl) (e2 : renB (perm l) bs = bs2 := by rfl) (e3 : V.ren (perm l) y = y2 := by rfl) (e4 : renB (perm l) bs' = bs2' := by rfl) : RetB P f xs2 (lookB bs2) y2 (lookB bs2') := by
  subst e1 e2 e3 e4
  have := h.renO (perm_permI l) (permI_perm l)
  rwa [lookB_ren (perm_permI l) (permI_perm l), lookB_ren (perm_permI l) (permI_perm l)] at this

/-! ## The rule -/

def keysIn (bs : List (Nat × Blk)) (fr : List Nat) : List (Nat × Blk) → Bool
  | [] => true
  | (k, _) :: r => (hasKey bs k || fr.elem k) && keysIn bs fr r
theorem keysIn_spec {bs : List (Nat × Blk)} {fr : List Nat} : ∀ {l : List (Nat × Blk)}, keysIn bs fr l = true → ∀ p ∈ l, lookB bs p.1 ≠ none ∨ p.1 ∈ fr
  | [], _, p, h => by simp at h
  | (a, v) :: l, h, p, hp => by
    simp only [keysIn, Bool.and_eq_true, Bool.or_eq_true] at h
    rcases List.mem_cons.1 hp with rfl | hp
    · exact h.1.imp hasKey_ne (fun h => by simpa using h)
    · exact keysIn_spec h.2 p hp
def freshOk (K : List Nat) (bs : List (Nat × Blk)) : List Nat → Bool
  | [] => true
  | k :: r => !(K.contains k) && !(hasKey bs k) && freshOk K bs r
theorem freshOk_spec {K : List Nat} {bs : List (Nat × Blk)} : ∀ {l : List Nat}, freshOk K bs l = true → ∀ k ∈ l, k ∉ K ∧ lookB bs k = none
  | [], _, k, h => by simp at h
  | a :: l, h, k, hk => by
    simp only [freshOk, Bool.and_eq_true, Bool.not_eq_true'] at h
    rcases List.mem_cons.1 hk with rfl | hk
    · refine ⟨notMem h.1.1, ?_⟩
      have := h.1.2
      unfold hasKey at this
      split at this
      · cases this
      · assumption
    · exact freshOk_spec h.2 k hk

theorem leVT {xs ys : List V} (h : LeVT xs ys := by
  first
  | ((repeat' (first | exact Go.Vw.LeVT.nil | apply Go.Vw.LeVT.cons | (refine Go.Vw.LeVT.consD ?_ ?_) | exact Go.Vw.LeD.full | exact Go.Vw.LeD.tk0 | exact Go.Vw.LeD.cutAll Go.Vw.sc | exact Go.Vw.LeD.refl _ | exact Go.Vw.LeD.eqi (by omega) | exact Go.Vw.LeD.nils | (refine Go.Vw.LeD.agg ?_; exact Go.Vw.leL) | (refine Go.Vw.LeD.lit rfl ?_; repeat' (first | exact Go.Vw.LeR.nil | refine Go.Vw.LeR.cons rfl Go.Vw.leL ?_)) | (refine Go.Vw.LeD.fn ?_; exact Go.Vw.leL) | (refine Go.Vw.LeD.ptr ?_ _; exact Go.Vw.leL))); done)
  | fail) : LeVT xs ys := h
theorem allB {s : St} {bs : List (Nat × Blk)} (h : AllB s bs := by
  first
  | exact trivial
  | exact ⟨rfl, trivial⟩
  | exact ⟨rfl, rfl, trivial⟩
  | exact ⟨rfl, rfl, rfl, trivial⟩
  | exact ⟨rfl, rfl, rfl, rfl, trivial⟩
  | fail) : AllB s bs := h
theorem clB {X : Ctx} {all : Array Oper} {s : St} {o : Oper} {Q : Exit → St → Prop} {rest : List Oper} {c : Call} {caps : List V} {d : Tmp} (f : FuncId) (fr : List Nat) {xs : List V} {bs bs' : List (Nat × Blk)} {y : V} (hr : RetB X.P f xs (lookB bs) y (lookB bs')) (hcf : calleeIs s o.op f = true) (hop : o.op = .call c) (hc : calleeOf s c = some (f, caps)) (hdst : o.dst = some d) (hg : gd all s o = some true) (hd : dstOk X.N (some d) = true) (hcov : (keysOk bs (V.refsL xs) && coverR bs bs && keysIn bs fr bs' && freshOk X.K bs fr) = true) (le : LeVT (c.args.toList.map s.opd ++ caps) xs) (hB : AllB s bs) (k : awpL X all rest Q (((s.subs fr).over bs').put (some d) y)) : awpL X all (o :: rest) Q s := by
  simp only [Bool.and_eq_true] at hcov
  obtain ⟨⟨⟨c1, c2⟩, c3⟩, c4⟩ := hcov
  rw [← hdst] at hd k
  exact awpL_step (e_callB fr hg hd hop hc le hr (fun k b hk => (lookB_of hB k b hk).1) (fun k hk => hasKey_ne (keysOk_spec c1 k hk)) (fun k b hk j hj => coverR_spec c2 _ (lookB_mem hk) j hj) (fun k hk => by
    obtain ⟨b, hb⟩ := Option.ne_none_iff_exists'.1 hk
    exact keysIn_spec c3 _ (lookB_mem hb)) (fun k hk => freshOk_spec c4 k hk)) k

/-! ## Where ways meet -/

@[irreducible] def Stop (p : Prop) : Prop := p
theorem stopOut {p : Prop} (h : p) : Stop p := by unfold Stop; exact h
def headId : Code → Option Nat
  | .region id _ _ => some id
  | .seq x _ => headId x
  | .block _ c => headId c
  | .loop c => headId c
  | _ => none
def headIs (n : Nat) (c : Code) : Bool := match headId c with | some m => Nat.beq m n | none => false
theorem stopA (n : Nat) {X : Ctx} {c : Code} {Q : Exit → St → Prop} {s : St} (h : headIs n c = true) (k : Stop (awp X c Q s)) : awp X c Q s := by unfold Stop at k; exact k
theorem awp_meet1 {α : Type} {X : Ctx} {x y : Code} {Q : Exit → St → Prop} {s : St} (st : α → List (Nat × V) × List (Nat × Blk)) (I : α → Prop) (h2 : ∀ a, I a → awp X y Q (St.of (st a).1 (st a).2)) (h1 : awp X x (andThen (fun s' => ∃ a, I a ∧ AllT s' (st a).1 ∧ AllB s' (st a).2) Q) s) (hc : ∀ a, (coverT (st a).2 (st a).1 && coverB (st a).2 (st a).2) = true := by exact fun _ => rfl) : awp X (.seq x y) Q s :=
  awp_seq (awp_mono (fun e s h => by
    cases e <;> first | exact h | exact (let ⟨a, hI, ht, hb⟩ := h; awp_slots _ _ ht hb (h2 a hI) (hc a))) h1)
theorem awp_meet2 {α β : Type} {X : Ctx} {x y : Code} {Q : Exit → St → Prop} {s : St} (st : α → β → List (Nat × V) × List (Nat × Blk)) (I : α → β → Prop) (h2 : ∀ a b, I a b → awp X y Q (St.of (st a b).1 (st a b).2)) (h1 : awp X x (andThen (fun s' => ∃ a b, I a b ∧ AllT s' (st a b).1 ∧ AllB s' (st a b).2) Q) s) (hc : ∀ a b, (coverT (st a b).2 (st a b).1 && coverB (st a b).2 (st a b).2) = true := by exact fun _ _ => rfl) : awp X (.seq x y) Q s :=
  awp_seq (awp_mono (fun e s h => by
    cases e <;> first | exact h | exact (let ⟨a, b, hI, ht, hb⟩ := h; awp_slots _ _ ht hb (h2 a b hI) (hc a b))) h1)
theorem blkEq {ty : TypeId} {sz : Nat} {α : Type} {e : α → List D} {z : α} {l l' : List α} (h : l = l') : some (Blk.data ty sz e z l) = some (Blk.data ty sz e z l') := by rw [h]
end Go.Vw

/-
  The walk's steps under one name (made by tools/genvgo.py). Conditions: as each rule says.
-/
namespace Go.Vw

section
variable {ex : Bool} {X : Ctx} {all : Array Oper} {Q : Exit → St → Prop} {s : St} {o : Oper} {pre rest : List Oper} {d : Tmp} {p : Prop} [Decidable p]
theorem gdLDT (hg : guardOf all o = some d) (hd : s.tmps d = .d (.bool (decide p))) (hp : p) : awpL X all (o :: rest) Q (s.put (some d) (.d (.bool true))) → awpL X all (o :: rest) Q s := fun h => gdLD hg hd (fun _ => h) (fun e => absurd hp e)
theorem gdLDF (hg : guardOf all o = some d) (hd : s.tmps d = .d (.bool (decide p))) (hp : ¬ p) : awpL X all (o :: rest) Q (s.put (some d) (.d (.bool false))) → awpL X all (o :: rest) Q s := fun h => gdLD hg hd (fun e => absurd e hp) (fun _ => h)
theorem gdLNT (hg : guardOf all o = some d) (hd : s.tmps d = .d (.bool (!decide p))) (hp : ¬ p) : awpL X all (o :: rest) Q (s.put (some d) (.d (.bool true))) → awpL X all (o :: rest) Q s := fun h => gdLN hg hd (fun _ => h) (fun e => absurd e hp)
theorem gdLNF (hg : guardOf all o = some d) (hd : s.tmps d = .d (.bool (!decide p))) (hp : p) : awpL X all (o :: rest) Q (s.put (some d) (.d (.bool false))) → awpL X all (o :: rest) Q s := fun h => gdLN hg hd (fun e => absurd hp e) (fun _ => h)
theorem gdRDT (hg : guardOf all o = some d) (hd : s.tmps d = .d (.bool (decide p))) (hp : p) : awpR ex X all (o :: pre) rest Q (s.put (some d) (.d (.bool true))) → awpR ex X all (o :: pre) rest Q s := fun h => gdRD hg hd (fun _ => h) (fun e => absurd hp e)
theorem gdRDF (hg : guardOf all o = some d) (hd : s.tmps d = .d (.bool (decide p))) (hp : ¬ p) : awpR ex X all (o :: pre) rest Q (s.put (some d) (.d (.bool false))) → awpR ex X all (o :: pre) rest Q s := fun h => gdRD hg hd (fun e => absurd e hp) (fun _ => h)
theorem gdRNT (hg : guardOf all o = some d) (hd : s.tmps d = .d (.bool (!decide p))) (hp : ¬ p) : awpR ex X all (o :: pre) rest Q (s.put (some d) (.d (.bool true))) → awpR ex X all (o :: pre) rest Q s := fun h => gdRN hg hd (fun _ => h) (fun e => absurd e hp)
theorem gdRNF (hg : guardOf all o = some d) (hd : s.tmps d = .d (.bool (!decide p))) (hp : p) : awpR ex X all (o :: pre) rest Q (s.put (some d) (.d (.bool false))) → awpR ex X all (o :: pre) rest Q s := fun h => gdRN hg hd (fun e => absurd hp e) (fun _ => h)
variable {c : Operand} {x y : Code}
theorem cdDT (hc : s.opd c = .d (.bool (decide p))) (hp : p) : awp X x Q s → awp X (.cond c x y) Q s := fun h => awp_condD hc (fun _ => h) (fun e => absurd hp e)
theorem cdDF (hc : s.opd c = .d (.bool (decide p))) (hp : ¬ p) : awp X y Q s → awp X (.cond c x y) Q s := fun h => awp_condD hc (fun e => absurd e hp) (fun _ => h)
theorem cdNT (hc : s.opd c = .d (.bool (!decide p))) (hp : ¬ p) : awp X x Q s → awp X (.cond c x y) Q s := fun h => awp_condN hc (fun _ => h) (fun e => absurd e hp)
theorem cdNF (hc : s.opd c = .d (.bool (!decide p))) (hp : p) : awp X y Q s → awp X (.cond c x y) Q s := fun h => awp_condN hc (fun e => absurd hp e) (fun _ => h)
end
theorem wG {G P : Prop} (k : G) (h : G → P := by
  first
  | (show _ → awpL _ _ _ _ _
     first
     | exact Go.Vw.stepQ true Go.Vw.tt Go.Vw.stt rfl rfl rfl Go.Vw.sc
     | exact Go.Vw.awpL_nil
     | exact Go.Vw.stepOff Go.Vw.sff rfl rfl
     | exact Go.Vw.stepStore Go.Vw.tt rfl rfl rfl rfl rfl rfl rfl rfl rfl Go.Vw.leL Go.Vw.sc
     | exact Go.Vw.stepStoreV Go.Vw.tt rfl rfl rfl rfl rfl rfl rfl rfl Go.Vw.sc
     | exact Go.Vw.stepAppF Go.Vw.tt rfl rfl rfl rfl rfl rfl rfl rfl rfl rfl rfl (Go.Vw.LeD.refl _) (Go.Vw.LeD.lit rfl (Go.Vw.LeR.cons rfl Go.Vw.leL Go.Vw.LeR.nil)) Go.Vw.sc
     | exact Go.Vw.stepAppF Go.Vw.tt rfl rfl rfl rfl rfl rfl rfl rfl rfl rfl rfl (Go.Vw.LeD.refl _) (Go.Vw.LeD.lit rfl Go.Vw.LeR.nil) Go.Vw.sc
     | exact Go.Vw.stepApp Go.Vw.tt rfl rfl rfl rfl rfl rfl rfl rfl rfl rfl rfl rfl Go.Vw.sc Go.Vw.srcOk Go.Vw.sc
     | exact Go.Vw.stepAppNil Go.Vw.tt rfl rfl rfl rfl rfl rfl rfl rfl rfl rfl rfl Go.Vw.srcZ Go.Vw.sc
     | exact Go.Vw.stepE1 Go.Vw.tt rfl rfl rfl rfl rfl
     | exact Go.Vw.stepE0 Go.Vw.tt rfl rfl rfl
     | exact Go.Vw.stepLitF Go.Vw.tt rfl Go.Vw.tt rfl rfl rfl
     | exact Go.Vw.stepLit Go.Vw.tt rfl rfl rfl rfl
     | exact Go.Vw.stepMake (mm := true) (en := Go.Vw.eN .u32) (z := 0) Go.Vw.tt rfl rfl rfl rfl rfl rfl rfl rfl rfl rfl rfl rfl Go.Vw.leL Go.Vw.sc Go.Vw.sc
     | exact Go.Vw.stepMake (mm := false) (en := Go.Vw.eN .u32) (z := 0) Go.Vw.tt rfl rfl rfl rfl rfl rfl rfl rfl rfl rfl rfl rfl Go.Vw.leL Go.Vw.sc Go.Vw.sc
     | exact Go.Vw.stepMake (mm := true) (en := Go.Vw.eI .i64) (z := 0) Go.Vw.tt rfl rfl rfl rfl rfl rfl rfl rfl rfl rfl rfl rfl Go.Vw.leL Go.Vw.sc Go.Vw.sc
     | exact Go.Vw.stepMake (mm := false) (en := Go.Vw.eI .i64) (z := 0) Go.Vw.tt rfl rfl rfl rfl rfl rfl rfl rfl rfl rfl rfl rfl Go.Vw.leL Go.Vw.sc Go.Vw.sc
     | exact Go.Vw.stepQ false Go.Vw.tt Go.Vw.stt rfl rfl rfl Go.Vw.sc
     | exact Go.Vw.stepB2S rfl rfl rfl rfl rfl rfl rfl rfl rfl rfl rfl (Go.Vw.LeD.refl _)
     | exact Go.Vw.stepB2SO rfl rfl rfl rfl rfl rfl rfl rfl rfl rfl rfl rfl
     | exact Go.Vw.stepS2B rfl rfl rfl rfl rfl rfl rfl rfl rfl rfl rfl
     | exact Go.Vw.stepB2S rfl rfl rfl rfl rfl rfl rfl rfl rfl rfl rfl (Go.Vw.LeD.lit rfl (Go.Vw.LeR.cons rfl Go.Vw.leL Go.Vw.LeR.nil))
     | exact Go.Vw.stepM0 Go.Vw.tt rfl (Go.Vw.m_q true rfl rfl Go.Vw.sc)
     | exact Go.Vw.gdLDT rfl rfl (by omega)
     | exact Go.Vw.gdLDF rfl rfl (by omega)
     | exact Go.Vw.gdLNT rfl rfl (by omega)
     | exact Go.Vw.gdLNF rfl rfl (by omega))
  | (show _ → awp _ _ _ _
     first
     | exact Go.Vw.awp_seq
     | exact Go.Vw.awp_region
     | exact Go.Vw.awp_block
     | exact Go.Vw.awp_condT rfl
     | exact Go.Vw.awp_condF rfl
     | exact Go.Vw.awp_skip
     | exact Go.Vw.awp_exit
     | exact Go.Vw.awp_ret
     | exact Go.Vw.cdDT rfl (by omega)
     | exact Go.Vw.cdDF rfl (by omega)
     | exact Go.Vw.cdNT rfl (by omega)
     | exact Go.Vw.cdNF rfl (by omega))
  | (show _ → andThen _ _ _ _
     first
     | exact Go.Vw.thenN
     | exact Go.Vw.thenX
     | exact Go.Vw.thenR)
  | (show _ → inBlock _ _ _ _
     first
     | exact Go.Vw.inN
     | exact Go.Vw.inX
     | exact Go.Vw.inY rfl
     | exact Go.Vw.inR)
  | (show _ → awpR _ _ _ _ _ _ _
     first
     | exact Go.Vw.stepRQ true Go.Vw.tt Go.Vw.stt rfl rfl rfl Go.Vw.sc rfl rfl
     | exact Go.Vw.awpR_nil
     | exact Go.Vw.stepROff Go.Vw.sff rfl rfl rfl
     | exact Go.Vw.stepRStore Go.Vw.tt rfl rfl rfl rfl rfl rfl rfl rfl rfl Go.Vw.leL Go.Vw.sc rfl rfl
     | exact Go.Vw.stepRStoreB Go.Vw.tt rfl rfl rfl rfl rfl rfl rfl rfl rfl rfl rfl rfl
     | exact Go.Vw.stepRAlloc Go.Vw.tt rfl rfl rfl rfl rfl rfl rfl rfl rfl
     | exact Go.Vw.stepRLitF Go.Vw.tt rfl Go.Vw.tt rfl rfl rfl
     | exact Go.Vw.stepRAppF Go.Vw.tt rfl rfl rfl rfl rfl rfl rfl rfl rfl rfl rfl (Go.Vw.LeD.refl _) (Go.Vw.LeD.lit rfl (Go.Vw.LeR.cons rfl Go.Vw.leL Go.Vw.LeR.nil)) Go.Vw.sc
     | exact Go.Vw.stepRAppF Go.Vw.tt rfl rfl rfl rfl rfl rfl rfl rfl rfl rfl rfl (Go.Vw.LeD.refl _) (Go.Vw.LeD.lit rfl Go.Vw.LeR.nil) Go.Vw.sc
     | exact Go.Vw.stepRLit Go.Vw.tt rfl rfl rfl rfl
     | exact Go.Vw.stepRQ false Go.Vw.tt Go.Vw.stt rfl rfl rfl Go.Vw.sc rfl rfl
     | exact Go.Vw.stepRB2S rfl rfl rfl rfl rfl rfl rfl rfl rfl rfl rfl (Go.Vw.LeD.refl _)
     | exact Go.Vw.stepRB2SO rfl rfl rfl rfl rfl rfl rfl rfl rfl rfl rfl rfl
     | exact Go.Vw.stepRS2B rfl rfl rfl rfl rfl rfl rfl rfl rfl rfl rfl
     | exact Go.Vw.stepRB2S rfl rfl rfl rfl rfl rfl rfl rfl rfl rfl rfl (Go.Vw.LeD.lit rfl (Go.Vw.LeR.cons rfl Go.Vw.leL Go.Vw.LeR.nil))
     | exact Go.Vw.gdRDT rfl rfl (by omega)
     | exact Go.Vw.gdRDF rfl rfl (by omega)
     | exact Go.Vw.gdRNT rfl rfl (by omega)
     | exact Go.Vw.gdRNF rfl rfl (by omega))
  | fail) : P := h k
theorem wS {G1 G2 P : Prop} (k1 : G1) (k2 : G2) (h : G1 → G2 → P := by
  first
  | (show _ → _ → awpL _ _ _ _ _
     first
     | exact Go.Vw.gdLD rfl rfl
     | exact Go.Vw.gdLN rfl rfl
     | exact Go.Vw.gdL rfl rfl)
  | (show _ → _ → awp _ _ _ _
     first
     | exact Go.Vw.awp_condD rfl
     | exact Go.Vw.awp_condN rfl
     | exact Go.Vw.awp_cond rfl)
  | (show _ → _ → awpR _ _ _ _ _ _ _
     first
     | exact Go.Vw.gdRD rfl rfl
     | exact Go.Vw.gdRN rfl rfl
     | exact Go.Vw.gdR rfl rfl)
  | fail) : P := h k1 k2
section
variable {ex : Bool} {X : Ctx} {all : Array Oper} {Q : Exit → St → Prop} {s : St} {o : Oper} {pre rest : List Oper} {c : Call} {caps : List V} {ds' : List D} {r : D}
theorem cl2 {Pg : Program} {s1 : St} {d : Tmp} {f : FuncId} (hcf : calleeIs s o.op f = true) (hop : o.op = .call c) (hc : calleeOf s c = some (f, caps)) (hdst : o.dst = some d) (h : CallE X all s s1 o f ds' r) (hP : X.P = Pg) : Ret Pg f ds' (· = r) → awpL X all rest Q (s1.put (some d) (.d r)) → awpL X all (o :: rest) Q s := fun hr k => cl f hcf hop hc hdst h (hP ▸ hr) k
theorem clR2 {Pg : Program} {d : Tmp} {f : FuncId} (hcf : calleeIs s o.op f = true) (hop : o.op = .call c) (hc : calleeOf s c = some (f, caps)) (hdst : o.dst = some d) (h : CallM X all s o f ds' r) (hd : dstOk X.N (some d) = true) (hP : X.P = Pg) : Ret Pg f ds' (· = r) → awpR ex X all pre rest Q (s.put (some d) (.d r)) → awpR ex X all (o :: pre) rest Q s := fun hr k => clR f hcf hop hc hdst h hd (hP ▸ hr) k
end
def FrI (_ : List Nat) : Prop := True
theorem clB2 {Pg : Program} {X : Ctx} {all : Array Oper} {s : St} {o : Oper} {Q : Exit → St → Prop} {rest : List Oper} {c : Call} {caps : List V} {d : Tmp} {f : FuncId} {fr : List Nat} {xs : List V} {bs bs' : List (Nat × Blk)} {y : V} (hcf : calleeIs s o.op f = true) (hop : o.op = .call c) (hc : calleeOf s c = some (f, caps)) (hdst : o.dst = some d) (hg : gd all s o = some true) (hd : dstOk X.N (some d) = true) (hcov : (keysOk bs (V.refsL xs) && coverR bs bs && keysIn bs fr bs' && freshOk X.K bs fr) = true) (le : LeVT (c.args.toList.map s.opd ++ caps) xs) (hB : AllB s bs) (hP : X.P = Pg) : FrI fr → RetB Pg f xs (lookB bs) y (lookB bs') → awpL X all rest Q (((s.subs fr).over bs').put (some d) y) → awpL X all (o :: rest) Q s := fun _ hr k => clB f fr (hP ▸ hr) hcf hop hc hdst hg hd hcov le hB k
theorem wC {Pg : Program} {f : FuncId} {ds' : List D} {r : D} {G P : Prop} (hr : Ret Pg f ds' (· = r)) (k : G) (h : Ret Pg f ds' (· = r) → G → P := by
  first
  | (show _ → _ → awpL _ _ _ _ _
     first
     | exact Go.Vw.cl2 Go.Vw.tt rfl rfl rfl (Go.Vw.callE_of rfl (Go.Vw.callM_plain rfl rfl rfl Go.Vw.tt rfl Go.Vw.leT)) rfl
     | exact Go.Vw.cl2 Go.Vw.tt rfl rfl rfl (Go.Vw.callE_of rfl (Go.Vw.callM_lent true rfl rfl rfl Go.Vw.ff Go.Vw.tt rfl Go.Vw.leT rfl Go.Vw.sc)) rfl
     | exact Go.Vw.cl2 Go.Vw.tt rfl rfl rfl (Go.Vw.callE_of rfl (Go.Vw.callM_lent false rfl rfl rfl Go.Vw.ff Go.Vw.tt rfl Go.Vw.leT rfl Go.Vw.sc)) rfl
     | exact Go.Vw.cl2 Go.Vw.tt rfl rfl rfl (Go.Vw.callE_frz rfl rfl Go.Vw.tt rfl rfl (Go.Vw.callE_of rfl (Go.Vw.callM_plain rfl rfl rfl Go.Vw.tt rfl Go.Vw.leT))) rfl
     | exact Go.Vw.cl2 Go.Vw.tt rfl rfl rfl (Go.Vw.callE_frz rfl rfl Go.Vw.tt rfl rfl (Go.Vw.callE_frz rfl rfl Go.Vw.tt rfl rfl (Go.Vw.callE_of rfl (Go.Vw.callM_plain rfl rfl rfl Go.Vw.tt rfl Go.Vw.leT)))) rfl
     | exact Go.Vw.cl2 (Nat.beq_refl _) rfl rfl rfl (Go.Vw.callE_of rfl (Go.Vw.callM_plain rfl rfl rfl Go.Vw.tt rfl Go.Vw.leT)) rfl
     | exact Go.Vw.cl2 (Nat.beq_refl _) rfl rfl rfl (Go.Vw.callE_of rfl (Go.Vw.callM_lent true rfl rfl rfl Go.Vw.ff Go.Vw.tt rfl Go.Vw.leT rfl Go.Vw.sc)) rfl
     | exact Go.Vw.cl2 (Nat.beq_refl _) rfl rfl rfl (Go.Vw.callE_of rfl (Go.Vw.callM_lent false rfl rfl rfl Go.Vw.ff Go.Vw.tt rfl Go.Vw.leT rfl Go.Vw.sc)) rfl
     | exact Go.Vw.cl2 (Nat.beq_refl _) rfl rfl rfl (Go.Vw.callE_frz rfl rfl Go.Vw.tt rfl rfl (Go.Vw.callE_of rfl (Go.Vw.callM_plain rfl rfl rfl Go.Vw.tt rfl Go.Vw.leT))) rfl
     | exact Go.Vw.cl2 (Nat.beq_refl _) rfl rfl rfl (Go.Vw.callE_frz rfl rfl Go.Vw.tt rfl rfl (Go.Vw.callE_frz rfl rfl Go.Vw.tt rfl rfl (Go.Vw.callE_of rfl (Go.Vw.callM_plain rfl rfl rfl Go.Vw.tt rfl Go.Vw.leT)))) rfl)
  | (show _ → _ → awpR _ _ _ _ _ _ _
     first
     | exact Go.Vw.clR2 Go.Vw.tt rfl rfl rfl (Go.Vw.callM_plain rfl rfl rfl Go.Vw.tt rfl Go.Vw.leT) rfl rfl
     | exact Go.Vw.clR2 Go.Vw.tt rfl rfl rfl (Go.Vw.callM_lent true rfl rfl rfl Go.Vw.ff Go.Vw.tt rfl Go.Vw.leT rfl Go.Vw.sc) rfl rfl
     | exact Go.Vw.clR2 Go.Vw.tt rfl rfl rfl (Go.Vw.callM_lent false rfl rfl rfl Go.Vw.ff Go.Vw.tt rfl Go.Vw.leT rfl Go.Vw.sc) rfl rfl
     | exact Go.Vw.clR2 (Nat.beq_refl _) rfl rfl rfl (Go.Vw.callM_plain rfl rfl rfl Go.Vw.tt rfl Go.Vw.leT) rfl rfl
     | exact Go.Vw.clR2 (Nat.beq_refl _) rfl rfl rfl (Go.Vw.callM_lent true rfl rfl rfl Go.Vw.ff Go.Vw.tt rfl Go.Vw.leT rfl Go.Vw.sc) rfl rfl
     | exact Go.Vw.clR2 (Nat.beq_refl _) rfl rfl rfl (Go.Vw.callM_lent false rfl rfl rfl Go.Vw.ff Go.Vw.tt rfl Go.Vw.leT rfl Go.Vw.sc) rfl rfl)
  | fail) : P := h hr k
theorem wD {Pg : Program} {f : FuncId} (fr : List Nat) {xs : List V} {bs bs' : List (Nat × Blk)} {y : V} {G P : Prop} (hr : RetB Pg f xs (lookB bs) y (lookB bs')) (k : G) (h : FrI fr → RetB Pg f xs (lookB bs) y (lookB bs') → G → P := by
  first
  | (show _ → _ → _ → awpL _ _ _ _ _
     first
     | exact Go.Vw.clB2 Go.Vw.tt rfl rfl rfl rfl rfl rfl Go.Vw.leVT Go.Vw.allB rfl
     | exact Go.Vw.clB2 (Nat.beq_refl _) rfl rfl rfl rfl rfl rfl Go.Vw.leVT Go.Vw.allB rfl)
  | fail) : P := h trivial hr k
theorem wB {T : TypeId → Option TyD} {fn : Func} {y : V} {bs' : List (Nat × Blk)} {e : Exit} {s : St} {G1 G2 : Prop} (k1 : G1) (k2 : G2) (h : G1 → G2 → retPostB T fn y bs' e s := by
  first
  | exact Go.Vw.finB rfl rfl
  | exact Go.Vw.finBT rfl rfl rfl
  | fail) : retPostB T fn y bs' e s := h k1 k2
end Go.Vw
