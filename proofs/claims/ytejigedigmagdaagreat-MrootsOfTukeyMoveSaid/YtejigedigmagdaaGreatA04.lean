/-
 Contracts of functions of the program, and the layer that they are walked with: VO Tab Limbs LimbsB. Conditions: as each says.
-/
import Derived.KernelRfl
import Derived.Test.YtejigedigmagdaaGreatProg
import Derived.Test.YtejigedigmagdaaGreatA03
set_option linter.unnecessarySimpa false
set_option linter.unusedSimpArgs false
set_option linter.unusedVariables false
set_option linter.unusedSectionVars false
namespace Go.Vw
open Go.RowKit
def forceV (C : Prop) : V → Ev V
 | .d y => some (C, .d y)
 | .own k o n ty sz => some (C, .own k o n ty sz)
 | .ptr k o => some (C, .ptr k o)
 | .eptr k sz i f => some (C, .eptr k sz i f)
 | .agg cs => some (C, .agg cs)
 | .tup cs => some (C, .tup cs)
 | .fn f cs => some (C, .fn f cs)
theorem forceV_eq (C : Prop) (x : V) : forceV C x = some (C, x) := by cases x <;> rfl
def evalF (T : TypeId → Option TyD) (m : Bool) (s : St) (op : Op) : Ev V :=
 match evalQ T m s op with
 | some (C, x) => forceV C x
 | none => none
theorem evalF_eq (T : TypeId → Option TyD) (m : Bool) (s : St) (op : Op) : evalF T m s op = evalQ T m s op := by
 unfold evalF
 split
 ·rename_i C x h; rw [forceV_eq, h]
 ·rename_i h; rw [h]
theorem le2 {α β : Type} {e : α × β → List D} {cs : List D} {a : α} {b : β} (h : LeL cs (e (a, b))) : LeL cs (e (a, b)) := h
theorem le3 {α β γ : Type} {e : α × β × γ → List D} {cs : List D} {a : α} {b : β} {c : γ} (h : LeL cs (e (a, b, c))) : LeL cs (e (a, b, c)) := h
@[reducible] def eI (k : IntKind) (x : Int) : List D := [.int k x]
@[reducible] def eN (k : IntKind) (x : Nat) : List D := [.int k (x : Int)]
@[reducible] def u32s (l : List Nat) : D := .sl 1 (eN .u32) 0 l
@[reducible] def i64s (l : List Int) : D := .sl 1 (eI .i64) 0 l
theorem leN {k : IntKind} {x : Int} (h : 0 ≤ x) : LeL [.int k x] (eN k x.toNat) := by
 rw [eN, Int.toNat_of_nonneg h]; exact LeL.refl _
theorem boolFits_of {dd : TyD} {b : Bool} (h : TypeDesc.isBool dd.desc = true) : boolFits dd (.bool b) := h
theorem iv {k : IntKind} {a b : Int} (h : a = b) : V.d (.int k a) = V.d (.int k b) := by rw [h]
theorem i64max : IntKind.i64.max = 9223372036854775807 := rfl
theorem sc {C : Prop} (h : C := by first | ((repeat' (first | exact trivial | apply And.intro | omega | exact Go.Vw.boolFits_of rfl | decide | with_reducible rfl | with_reducible assumption | (with_reducible show (_ : Nat) = _; exact rfl) | (simp only [IntKind.bits, Go.Vw.i64max, Go.Vw.plus0_eq, List.length_append, List.length_cons, List.length_nil, List.length_set, List.length_replicate, List.length_take, List.length_drop, List.length_map, List.length_range] <;> omega))); done) | fail) : C := h
theorem LeD.eqi {k : IntKind} {x y : Int} (h : x = y) : LeD (.int k x) (.int k y) := by subst h; exact LeD.refl _
theorem leEq {k : IntKind} {x : Int} {n : Nat} (h : x = (n : Int)) : LeL [.int k x] (eN k n) := by subst h; exact LeL.refl _
theorem leEqI {k : IntKind} {x y : Int} (h : x = y) : LeL [.int k x] (eI k y) := by subst h; exact LeL.refl _
theorem LeD.full {sz : Nat} {α : Type} {e : α → List D} {z : α} {l : List α} : LeD (.sl sz e z (cut 0 l.length l)) (.sl sz e z l) := by
 rw [cut_all]; exact LeD.refl _
theorem LeD.tk0 {sz n : Nat} {α : Type} {e : α → List D} {z : α} {l : List α} : LeD (.sl sz e z (cut 0 n l)) (.sl sz e z (l.take n)) := by
 rw [cut_zero]; exact LeD.refl _
theorem leB {x : Int} (h : 0 ≤ x ∧ x < 256) : LeL [.int .u8 x] (eB (UInt8.ofNat x.toNat)) := by
 have : ((UInt8.ofNat x.toNat).toNat : Int) = x := by
  rw [UInt8.toNat_ofNat']
  have : x.toNat % 2 ^ 8 = x.toNat := Nat.mod_eq_of_lt (by omega)
  rw [this]; omega
 rw [eB, this]; exact LeL.refl _
theorem LeD.cutAll {sz n : Nat} {α : Type} {e : α → List D} {z : α} {l : List α} (h : n = l.length) : LeD (.sl sz e z (cut 0 n l)) (.sl sz e z l) := by
 subst h; exact LeD.full
theorem leL {xs ys : List D} (h : LeL xs ys := by
 first
 | with_reducible exact Go.Vw.LeL.refl _
 | exact Go.Vw.leB (by omega)
 | exact Go.Vw.leN (by omega)
 | exact Go.Vw.LeL.refl _
 | exact Go.Vw.leEq (by omega)
 | exact Go.Vw.leEqI (by omega)
 | ((repeat' (first | exact Go.Vw.LeD.refl _ | exact Go.Vw.LeL.nil | apply Go.Vw.LeL.cons | exact Go.Vw.LeD.nils | apply Go.Vw.LeD.agg | exact Go.Vw.LeD.lit rfl Go.Vw.LeR.nil | (refine Go.Vw.LeD.lit rfl (Go.Vw.LeR.cons rfl ?_ ?_)) | exact Go.Vw.LeL.refl _ | exact Go.Vw.LeR.nil | (refine Go.Vw.LeR.cons rfl ?_ ?_))); done)
 | (refine Go.Vw.le3 ?_; (repeat' (first | exact Go.Vw.LeD.refl _ | exact Go.Vw.LeL.nil | apply Go.Vw.LeL.cons | exact Go.Vw.LeD.nils | apply Go.Vw.LeD.agg)); done)
 | (refine Go.Vw.le2 ?_; (repeat' (first | exact Go.Vw.LeD.refl _ | exact Go.Vw.LeL.nil | apply Go.Vw.LeL.cons | exact Go.Vw.LeD.nils | apply Go.Vw.LeD.agg)); done)
 | fail) : LeL xs ys := h
theorem leT {xs ys : List D} (h : LeT xs ys := by
 first
 | ((repeat' (first | exact Go.Vw.LeD.full | exact Go.Vw.LeD.tk0 | exact Go.Vw.LeD.cutAll Go.Vw.sc | exact Go.Vw.LeD.refl _ | exact Go.Vw.LeT.nil | exact Go.Vw.LeD.eqi (by omega) | apply Go.Vw.LeT.cons | exact Go.Vw.LeD.nils | (refine Go.Vw.LeD.agg ?_; exact Go.Vw.leL) | (refine Go.Vw.LeD.lit rfl ?_; repeat' (first | exact Go.Vw.LeR.nil | refine Go.Vw.LeR.cons rfl Go.Vw.leL ?_)) | (refine Go.Vw.LeD.fn ?_; exact Go.Vw.leL) | (refine Go.Vw.LeD.ptr ?_ _; exact Go.Vw.leL))); done)
 | fail) : LeT xs ys := h
theorem src_lit {X : Ctx} {s : St} {sz n : Nat} {α : Type} {e : α → List D} {rows : List (List D)} {a : α} {l : List α} (hn : rows.length = n) (h : LeR sz rows e (a :: l)) : SrcOk X s (.d (.sl sz (nth [] rows) 0 (iota n 0))) sz e (a :: l) := src_data (z := a) (LeD.lit hn h)
theorem srcOk {X : Ctx} {s : St} {y : V} {sz : Nat} {α : Type} {e : α → List D} {l : List α} (h : SrcOk X s y sz e l := by
 first
 | exact Go.Vw.src_data (Go.Vw.LeD.refl _)
 | exact Go.Vw.src_lit rfl (Go.Vw.LeR.cons rfl Go.Vw.leL Go.Vw.LeR.nil)
 | exact Go.Vw.src_lit rfl (Go.Vw.LeR.cons rfl Go.Vw.leL (Go.Vw.LeR.cons rfl Go.Vw.leL Go.Vw.LeR.nil))
 | exact Go.Vw.src_data Go.Vw.LeD.nils
 | exact Go.Vw.src_all rfl rfl
 | exact Go.Vw.src_own rfl
 | fail) : SrcOk X s y sz e l := h
theorem tt : true = true := rfl
theorem ff : false = false := rfl
theorem stt : some true = some true := rfl
theorem sff : some false = some false := rfl
def opK : Op → Nat
 | .store .. => 1
 | .alloc _ => 2
 | .box _ _ => 2
 | .call ⟨.builtin .append, _, _⟩ => 3
 | .call ⟨.builtin _, _, _⟩ => 0
 | .call _ => 6
 | .makeSlice .. => 4
 | .buildSlice .. => 5
 | _ => 0
section
variable {X : Ctx} {all : Array Oper} {s : St} {o : Oper}
theorem m_q (m : Bool) (hg : gd all s o = some true) {C : Prop} {x : V} (hq : evalF X.T m s o.op = some (C, x)) (hC : C) : M1 X all s o x := m_quiet X.ok m hg (by rw [evalF_eq] at hq; exact hq) hC
variable {Q : Exit → St → Prop} {rest : List Oper}
theorem stepM {x : V} {d : Tmp} (hdst : o.dst = some d) (hd : dstOk X.N (some d) = true) (h : M1 X all s o x) (k : awpL X all rest Q (s.put (some d) x)) : awpL X all (o :: rest) Q s := by
 rw [← hdst] at hd k; exact awpL_step (h.e1 hd) k
theorem stepQ {d : Tmp} {C : Prop} {x : V} (m : Bool) (hk : Nat.beq (opK o.op) 0 = true) (hg : gd all s o = some true) (hdst : o.dst = some d) (hd : dstOk X.N (some d) = true) (hq : evalF X.T m s o.op = some (C, x)) (hC : C) (k : awpL X all rest Q (s.put (some d) x)) : awpL X all (o :: rest) Q s := stepM hdst hd (m_q m hg hq hC) k
theorem stepOff {d : Tmp} (hg : gd all s o = some false) (hdst : o.dst = some d) (hd : dstOk X.N (some d) = true) (k : awpL X all rest Q (s.put (some d) (.d (.tup [])))) : awpL X all (o :: rest) Q s := stepM hdst hd (m_off hg) k
theorem stepM0 {x : V} (hk : Nat.beq (opK o.op) 0 = true) (hdst : o.dst = none) (h : M1 X all s o x) (k : awpL X all rest Q s) : awpL X all (o :: rest) Q s := by
 refine awpL_step (h.e1 (by rw [hdst]; rfl)) ?_; rw [hdst]; exact k
theorem stepE1 {s' : St} {x : V} {d : Tmp} (hkk : Nat.beq (opK o.op) 2 = true) (hdst : o.dst = some d) (hg : gd all s o = some true) (hd : dstOk X.N (some d) = true) (hK : X.K.contains d = false) (h : evalE X.T s (some d) o.op = some (some x, s')) (k : awpL X all rest Q (s'.put (some d) x)) : awpL X all (o :: rest) Q s := by
 obtain ⟨dst, op, ty, pos, after, g⟩ := o
 cases hdst
 exact awpL_step (e_eff X.ok hg hd (fun d' e => by cases e; exact hK) h) k
theorem stepE0 {s' : St} (hkk : Nat.beq (opK o.op) 1 = true) (hdst : o.dst = none) (hg : gd all s o = some true) (h : evalE X.T s none o.op = some (none, s')) (k : awpL X all rest Q s') : awpL X all (o :: rest) Q s := by
 obtain ⟨dst, op, ty, pos, after, g⟩ := o
 cases hdst
 exact awpL_step (e_eff X.ok hg rfl (fun d' e => by cases e) h) k
end
def SrcZ (X : Ctx) (s : St) (y : V) (sz : Nat) {α : Type} (e : α → List D) (z : α) (l : List α) : Prop := SrcOk X s y sz e l
theorem srcz_sl {X : Ctx} {s : St} {y : D} {sz : Nat} {α : Type} {e : α → List D} {z : α} {l : List α} (h : y = .sl sz e z l) : SrcZ X s (.d y) sz e z l := by
 subst h; exact src_data (LeD.refl _)
theorem srcz_lit {X : Ctx} {s : St} {y : D} {sz : Nat} {α : Type} [Inhabited α] {e : α → List D} {l : List α} (h : SrcOk X s (.d y) sz e l) : SrcZ X s (.d y) sz e default l := h
theorem srcz_all {X : Ctx} {s : St} {k n : Nat} {ty ty' : TypeId} {sz : Nat} {α : Type} {e : α → List D} {z : α} {l : List α} (hk : s.blk k = some (.data ty' sz e z l)) (hn : n = l.length) : SrcZ X s (.own k 0 n ty sz) sz e z l := src_all hk hn
theorem srcz_own {X : Ctx} {s : St} {k o n : Nat} {ty ty' : TypeId} {sz : Nat} {α : Type} {e : α → List D} {z : α} {l : List α} (hk : s.blk k = some (.data ty' sz e z l)) : SrcZ X s (.own k o n ty sz) sz e z (cut o n l) := src_own hk
theorem srcZ {X : Ctx} {s : St} {y : V} {sz : Nat} {α : Type} {e : α → List D} {z : α} {l : List α} (h : SrcZ X s y sz e z l := by
 first
 | exact Go.Vw.srcz_sl rfl
 | exact Go.Vw.srcz_lit (Go.Vw.src_lit rfl (Go.Vw.LeR.cons rfl Go.Vw.leL Go.Vw.LeR.nil))
 | exact Go.Vw.srcz_lit (Go.Vw.src_lit rfl (Go.Vw.LeR.cons rfl Go.Vw.leL (Go.Vw.LeR.cons rfl Go.Vw.leL Go.Vw.LeR.nil)))
 | exact Go.Vw.srcz_all rfl rfl
 | exact Go.Vw.srcz_own rfl
 | fail) : SrcZ X s y sz e z l := h
section
variable {X : Ctx} {all : Array Oper} {s : St} {o : Oper} {Q : Exit → St → Prop} {rest : List Oper} {d : Tmp} {α : Type} {en : α → List D} {z : α} {l : List α} {td ed : TyD}
theorem stepStore {t ety : TypeId} {addr x : Operand} {k sz i f : Nat} {y : D} {cs : List D} {a' : α} (hkk : Nat.beq (opK o.op) 1 = true) (hop : o.op = .store t addr x) (hdst : o.dst = none) (hg : gd all s o = some true) (ht : X.T t = some td) (ha : s.opd addr = .eptr k sz i f) (hk : s.blk k = some (.data ety sz en z l)) (hx : s.opd x = .d y) (hst : ((V.d y).storable && Nat.beq y.cells.length td.size) = true) (hp : putL (en (l.getD i z)) f y.cells = some cs) (hle : LeL cs (en a')) (hi : i < l.length) (r : awpL X all rest Q (s.withBlk k (.data ety sz en z (l.set i a')))) : awpL X all (o :: rest) Q s := by
 obtain ⟨dst, op, ty, pos, after, g⟩ := o
 cases hop; cases hdst
 exact awpL_step (e_store X.ok hg ht ha hk hx hst hp hle hi) r
theorem stepStoreV {t ety : TypeId} {addr x : Operand} {k i k2 o2 n2 : Nat} {ty2 : TypeId} {sz2 : Nat} (hkk : Nat.beq (opK o.op) 1 = true) (hop : o.op = .store t addr x) (hdst : o.dst = none) (hg : gd all s o = some true) (hx : s.opd x = .own k2 o2 n2 ty2 sz2) (ht : X.T t = some td) (ha : s.opd addr = .eptr k 1 i 0) (hk : s.blk k = some (.data ety 1 en z l)) (hsz : Nat.beq td.size 1 = true) (hi : i < l.length) (r : awpL X all rest Q (s.withBlk k (.hole ety 1 en z l i (.own k2 o2 n2 ty2 sz2)))) : awpL X all (o :: rest) Q s := by
 obtain ⟨dst, op, ty, pos, after, g⟩ := o
 cases hop; cases hdst
 exact awpL_step (e_storeV X.ok hg ht ha hk hx hsz hi) r
theorem stepApp {t : TypeId} {c : Call} {x y : Operand} {e : TypeId} {k n : Nat} {l2 : List α} (hkk : Nat.beq (opK o.op) 3 = true) (hop : o.op = .call c) (hc : c = ⟨.builtin .append, #[x, y], #[t, t]⟩) (hdst : o.dst = some d) (hg : gd all s o = some true) (hd : dstOk X.N (some d) = true) (ht : X.T t = some td) (hds : td.desc = .slice e) (he : X.T e = some ed) (hx : s.opd x = .own k 0 n e ed.size) (hK : X.K.contains k = false) (hk : s.blk k = some (.data e ed.size en z l)) (hz : zeroOk ed = true) (hn : n = l.length) (hy : SrcOk X s (s.opd y) ed.size en l2) (hb : l.length + l2.length ≤ 9223372036854775807 ∧ (l.length + l2.length) * ed.bytes ≤ 140737488355328) (r : awpL X all rest Q ((s.new k (.data e ed.size en z (l ++ l2))).put (some d) (.own k 0 (l ++ l2).length e ed.size))) : awpL X all (o :: rest) Q s := by
 obtain ⟨dst, op, ty, pos, after, g⟩ := o
 cases hop; cases hdst; subst hc
 exact awpL_step (e_append X.ok hg hd ht hds he hK hx hk hn hy hz hb) r
theorem stepAppNil {t : TypeId} {c : Call} {x y : Operand} {e : TypeId} {l2 : List α} (hkk : Nat.beq (opK o.op) 3 = true) (hop : o.op = .call c) (hc : c = ⟨.builtin .append, #[x, y], #[t, t]⟩) (hdst : o.dst = some d) (hg : gd all s o = some true) (hd : dstOk X.N (some d) = true) (ht : X.T t = some td) (hds : td.desc = .slice e) (he : X.T e = some ed) (hx : s.opd x = .d .nils) (hK : X.K.contains d = false) (hz : zeroOk ed = true) (hy : SrcZ X s (s.opd y) ed.size en z l2) (hb : l2.length ≤ 9223372036854775807 ∧ l2.length * ed.bytes ≤ 140737488355328) (r : awpL X all rest Q (((s.new d (.data e ed.size en z [])).new d (.data e ed.size en z l2)).put (some d) (.own d 0 l2.length e ed.size))) : awpL X all (o :: rest) Q s := by
 obtain ⟨dst, op, ty, pos, after, g⟩ := o
 cases hop; cases hdst; subst hc
 exact awpL_step (e_appnil X.ok hg hd ht hds he hK hx hy hz hb) r
theorem stepMake {mm : Bool} {t e : TypeId} {lo co : Operand} {n m : Int} {C : Prop} {j : Nat} (hkk : Nat.beq (opK o.op) 4 = true) (hop : o.op = .makeSlice t lo co) (hdst : o.dst = some d) (hg : gd all s o = some true) (hd : dstOk X.N (some d) = true) (hK : X.K.contains d = false) (ht : X.T t = some td) (hds : td.desc = .slice e) (he : X.T e = some ed) (hl : intOfV (s.opd lo) = some n) (hc : intOfV (s.opd co) = some m) (hn : natOf mm n = some (C, ⟨j⟩)) (hz : zeroOk ed = true) (le : LeL (D.ofV ed.zero).cells (en z)) (hC : C) (hb : n ≤ m ∧ m * ed.bytes ≤ 140737488355328 ∧ m ≤ 9223372036854775807) (r : awpL X all rest Q ((s.new d (.data e ed.size en z (List.replicate j z))).put (some d) (.own d 0 j e ed.size))) : awpL X all (o :: rest) Q s := by
 obtain ⟨dst, op, ty, pos, after, g⟩ := o
 cases hop; cases hdst
 exact awpL_step (e_make X.ok hg hd hK ht hds he hl hc hn hz le hC hb) r
theorem stepLit {e : TypeId} {sz len : Nat} {rows : List (List D)} (hkk : Nat.beq (opK o.op) 5 = true) (h : evalB X.T s o.op = some (e, sz, len, rows)) (hdst : o.dst = some d) (hg : gd all s o = some true) (hd : dstOk X.N (some d) = true) (k : awpL X all rest Q (s.put (some d) (.d (.sl sz (nth [] rows) 0 (iota len 0))))) : awpL X all (o :: rest) Q s := stepM hdst hd (m_lit X.ok hg h) k
end
def litApp (d : Tmp) : List Oper → Bool
 | [] => false
 | o :: r => match o.op with
  | .call ⟨.builtin .append, args, _⟩ => (match args.toList with | .tmp t :: _ => Nat.beq t d | _ => false) || litApp d r
  | _ => litApp d r
section
variable {X : Ctx} {all : Array Oper} {s : St} {o : Oper} {Q : Exit → St → Prop} {pre rest : List Oper} {d : Tmp} {α : Type} {en : α → List D} {z : α} {l l2 : List α} {td ed : TyD} {d1 d2 : D}
theorem stepLitF {e : TypeId} {sz len : Nat} {rows : List (List D)} (hkk : Nat.beq (opK o.op) 5 = true) (hdst : o.dst = some d) (hla : litApp d rest = true) (h : evalB X.T s o.op = some (e, sz, len, rows)) (hg : gd all s o = some true) (hd : dstOk X.N (some d) = true) (k : awpL X all rest Q (s.put (some d) (.d (.full (.sl sz (nth [] rows) 0 (iota len 0)))))) : awpL X all (o :: rest) Q s := stepM hdst hd (m_litF X.ok hg h) k
theorem m_appF' {t : TypeId} {c : Call} {x y : Operand} {e : TypeId} (hop : o.op = .call c) (hc : c = ⟨.builtin .append, #[x, y], #[t, t]⟩) (hg : gd all s o = some true) (ht : X.T t = some td) (hds : td.desc = .slice e) (he : X.T e = some ed) (hx : s.opd x = .d (.full d1)) (hz : zeroOk ed = true) (hy : s.opd y = .d d2) (le2 : LeD d2 (.sl ed.size en z l2)) (le1 : LeD d1 (.sl ed.size en z l)) (hb : l.length + l2.length ≤ 9223372036854775807 ∧ (l.length + l2.length) * ed.bytes ≤ 140737488355328) : M1 X all s o (.d (.sl ed.size en z (l ++ l2))) := by
 subst hc; exact m_appF X.ok hop hg ht hds he hx le1 hy le2 hz hb
theorem stepB2S {src dst e : TypeId} {y : Operand} {sd dd : TyD} {l : List UInt8} (hop : o.op = .convert src dst y) (hdst : o.dst = some d) (hs : X.T src = some sd) (hsd : sd.desc = .slice e) (hdt : X.T dst = some dd) (hdd : dd.desc = .string) (he : X.T e = some ed) (hed : ed.desc = .int .u8) (hg : gd all s o = some true) (hd : dstOk X.N (some d) = true) (hy : s.opd y = .d d1) (le : LeD d1 (.sl 1 eB 0 l)) (k : awpL X all rest Q (s.put (some d) (.d (.str l)))) : awpL X all (o :: rest) Q s := stepM hdst hd (m_b2s X.ok hop hg hs hsd he hed hdt hdd hy le) k
theorem stepB2SO {src dst e : TypeId} {y : Operand} {sd dd : TyD} {l : List UInt8} {k o1 n : Nat} {ty ty' : TypeId} {z : UInt8} (hop : o.op = .convert src dst y) (hdst : o.dst = some d) (hs : X.T src = some sd) (hsd : sd.desc = .slice e) (hdt : X.T dst = some dd) (hdd : dd.desc = .string) (he : X.T e = some ed) (hed : ed.desc = .int .u8) (hg : gd all s o = some true) (hd : dstOk X.N (some d) = true) (hy : s.opd y = .own k o1 n ty 1) (hk : s.blk k = some (.data ty' 1 eB z l)) (r : awpL X all rest Q (s.put (some d) (.d (.str (cut o1 n l))))) : awpL X all (o :: rest) Q s := stepM hdst hd (m_b2sO X.ok hop hg hs hsd he hed hdt hdd hy hk) r
theorem stepS2B {src dst e : TypeId} {y : Operand} {sd dd : TyD} {l : List UInt8} (hop : o.op = .convert src dst y) (hdst : o.dst = some d) (hs : X.T src = some sd) (hsd : sd.desc = .string) (hdt : X.T dst = some dd) (hdd : dd.desc = .slice e) (he : X.T e = some ed) (hed : ed.desc = .int .u8) (hg : gd all s o = some true) (hd : dstOk X.N (some d) = true) (hy : s.opd y = .d (.str l)) (k : awpL X all rest Q (s.put (some d) (.d (.sl 1 eB 0 l)))) : awpL X all (o :: rest) Q s := stepM hdst hd (m_s2b X.ok hop hg hs hsd hdt hdd he hed hy) k
theorem stepAppF {t : TypeId} {c : Call} {x y : Operand} {e : TypeId} (hkk : Nat.beq (opK o.op) 3 = true) (hop : o.op = .call c) (hc : c = ⟨.builtin .append, #[x, y], #[t, t]⟩) (hdst : o.dst = some d) (hx : s.opd x = .d (.full d1)) (hg : gd all s o = some true) (hd : dstOk X.N (some d) = true) (ht : X.T t = some td) (hds : td.desc = .slice e) (he : X.T e = some ed) (hz : zeroOk ed = true) (hy : s.opd y = .d d2) (le2 : LeD d2 (.sl ed.size en z l2)) (le1 : LeD d1 (.sl ed.size en z l)) (hb : l.length + l2.length ≤ 9223372036854775807 ∧ (l.length + l2.length) * ed.bytes ≤ 140737488355328) (k : awpL X all rest Q (s.put (some d) (.d (.sl ed.size en z (l ++ l2))))) : awpL X all (o :: rest) Q s := stepM hdst hd (m_appF' hop hc hg ht hds he hx hz hy le2 le1 hb) k
end
section
variable {X : Ctx} {Q : Exit → St → Prop} {K : St → Prop} {s : St} {id n : Nat}
theorem thenN (h : K s) : andThen K Q .normal s := h
theorem thenX (h : Q (.exit n) s) : andThen K Q (.exit n) s := h
theorem thenR (h : Q .ret s) : andThen K Q .ret s := h
theorem inN (h : Q .normal s) : inBlock id Q .normal s := h
theorem inR (h : Q .ret s) : inBlock id Q .ret s := h
theorem inX (h : Q .normal s) : inBlock id Q (.exit id) s := by simp only [inBlock, Nat.beq_refl]; exact h
theorem inY (he : Nat.beq n id = false) (h : Q (.exit n) s) : inBlock id Q (.exit n) s := by simp only [inBlock, he]; exact h
end
def awpR (ex : Bool) (X : Ctx) (all : Array Oper) (pre rest : List Oper) (Q : Exit → St → Prop) (s : St) : Prop := ∃ s1, PRun ex X all pre s s1 ∧ awpL X all rest Q s1
section
variable {ex : Bool} {X : Ctx} {all : Array Oper} {Q : Exit → St → Prop} {s : St} {o : Oper} {pre rest : List Oper}
theorem awpR_nil (h : awpL X all rest Q s) : awpR ex X all [] rest Q s := ⟨s, .nil, h⟩
theorem isMove_no (h : regOp o.op = false) : isMove o = false := by
 unfold isMove
 rw [h]; rfl
theorem isAlloc_no (h : ∀ e, o.op ≠ .alloc e) : isAlloc o = false := by
 unfold isAlloc
 split
 ·rename_i e h1; exact absurd h1 (h e)
 ·rfl
theorem isMove_off (h : gd all s o = some false) : isMove o = false := by
 unfold isMove
 have : o.guard ≠ none := fun e => by unfold gd at h; rw [e] at h; cases h
 cases hg : o.guard with
 | none => exact absurd hg this
 | some p => simp
theorem regOp_k {op : Op} (h : regOp op = true) : opK op = 0 := by
 cases op with
 | call c =>
  obtain ⟨cal, args, tys⟩ := c
  cases cal with
  | builtin b => cases b <;> first | rfl | cases h
  | value f => cases h
  | invoke r m => cases h
 | _ => first | rfl | cases h
theorem isMove_k {n : Nat} (h : Nat.beq (opK o.op) n = true) (hn : n ≠ 0) : isMove o = false := isMove_no (by
 have hk := Nat.eq_of_beq_eq_true h
 cases hr : regOp o.op with
 | false => rfl
 | true => rw [regOp_k hr] at hk; exact absurd hk.symm hn)
theorem isMove_call {c : Call} (h : o.op = .call c) (hb : regOp (.call c) = false) : isMove o = false := isMove_no (by rw [h]; exact hb)
theorem callee_reg {c : Call} {x : FuncId × List V} (h : calleeOf s c = some x) : regOp (.call c) = false := by
 unfold calleeOf at h
 unfold regOp
 split at h
 ·rename_i y e; simp only [e]
 ·cases h
theorem isMove_conv {a b : TypeId} {x : Operand} (h : o.op = .convert a b x) : isMove o = false := isMove_no (by rw [h]; rfl)
theorem isLoad_k {n : Nat} (h : Nat.beq (opK o.op) n = true) (hn : n ≠ 0) : isLoad o = false := by
 unfold isLoad
 have hk := Nat.eq_of_beq_eq_true h
 revert hk
 cases o.op <;> intro hk <;> first | rfl | exact absurd hk.symm hn
theorem isLoad_call {c : Call} (h : o.op = .call c) : isLoad o = false := by unfold isLoad; rw [h]; rfl
theorem isLoad_conv {a b : TypeId} {x : Operand} (h : o.op = .convert a b x) : isLoad o = false := by unfold isLoad; rw [h]; rfl
theorem isLoad_off (h : gd all s o = some false) : isLoad o = false := by
 unfold isLoad
 have : o.guard ≠ none := fun e => by unfold gd at h; rw [e] at h; cases h
 cases hg : o.guard with
 | none => exact absurd hg this
 | some p => simp
theorem chkLd_not {k : Option Nat} (h : isLoad o = false) : chkLd all k o = true := by unfold chkLd; rw [h]; rfl
theorem isAlloc_k {n : Nat} (h : Nat.beq (opK o.op) n = true) (hn : n ≠ 2) : isAlloc o = false := isAlloc_no fun y e => by rw [e] at h; exact hn (Nat.eq_of_beq_eq_true h).symm
theorem isAlloc_call {c : Call} (h : o.op = .call c) : isAlloc o = false := isAlloc_no fun y e => by rw [h] at e; cases e
theorem isAlloc_conv {a b : TypeId} {x : Operand} (h : o.op = .convert a b x) : isAlloc o = false := isAlloc_no fun y e => by rw [h] at e; cases e
theorem awpR_cons {x : D} {d : Tmp} (hn : isMove o = false) (hna : isAlloc o = false) (hnl : isLoad o = false) (hdst : o.dst = some d) (hd : dstOk X.N (some d) = true) (h : M1 X all s o (.d x)) (k : awpR ex X all pre rest Q (s.put (some d) (.d x))) : awpR ex X all (o :: pre) rest Q s := by
 rw [← hdst] at hd k
 obtain ⟨s1, h1, h2⟩ := k
 exact ⟨s1, .cons hd h (fun hm => by rw [hn] at hm; cases hm) hna rfl (fun hm => by rw [hnl] at hm; cases hm) (fun _ => chkLd_not hnl) h1, h2⟩
theorem opd_agree {s' : St} {y : Operand} (hy : y ∈ o.op.operands.toList) (h : ∀ t ∈ o.looksAt all, s'.tmps t = s.tmps t) : s'.opd y = s.opd y := by
 cases y with
 | tmp t => exact h t (by unfold Oper.looksAt; rw [List.mem_append]; left; rw [List.mem_filterMap]; exact ⟨_, hy, rfl⟩)
 | const v => rfl
 | global g => rfl
 | func f => rfl
theorem gd_agree {s' : St} (h : ∀ t ∈ o.looksAt all, s'.tmps t = s.tmps t) : gd all s' o = gd all s o := by
 unfold gd
 cases hg : o.guard with
 | none => rfl
 | some p =>
  obtain ⟨g, want⟩ := p
  simp only
  cases hd : (all[g]?).bind (·.dst) with
  | none => rfl
  | some d => simp only [h d (by unfold Oper.looksAt; rw [List.mem_append]; right; simp [hg, hd])]
theorem evalQ_move {T : TypeId → Option TyD} {m : Bool} {s' : St} (hm : isMove o = true) (h : ∀ t ∈ o.looksAt all, s'.tmps t = s.tmps t) : evalQ T m s' o.op = evalQ T m s o.op := by
 have hop := fun y hy => opd_agree (s := s) (s' := s') (o := o) (all := all) (y := y) hy h
 unfold isMove at hm
 rw [Bool.and_eq_true] at hm
 have hr := hm.1
 unfold regOp at hr
 split at hr
 ·rename_i y e; rw [e] at hop ⊢; simp only [evalQ, hop y (by simp [Op.operands])]
 ·rename_i y e; rw [e] at hop ⊢; simp only [evalQ, hop y (by simp [Op.operands])]
 ·rename_i y i e; rw [e] at hop ⊢; simp only [evalQ, hop y (by simp [Op.operands])]
 ·rename_i a b x y c e; rw [e] at hop ⊢; simp only [evalQ, hop x (by simp [Op.operands]), hop y (by simp [Op.operands])]
 ·rename_i t x i e; rw [e] at hop ⊢; simp only [evalQ, hop x (by simp [Op.operands]), hop i (by simp [Op.operands])]
 ·rename_i t x f e; rw [e] at hop ⊢; simp only [evalQ, hop x (by simp [Op.operands])]
 ·rename_i x e; rw [e] at hop ⊢; simp only [evalQ, hop x (by simp [Op.operands])]
 ·rename_i c e
  rw [e] at hop ⊢
  obtain ⟨cal, args, tys⟩ := c
  cases cal with
  | builtin b =>
   have h2 : ∀ y ∈ args.toList, s'.opd y = s.opd y := fun y hy => hop y (by simp only [Op.operands, Call.operands]; simpa using hy)
   simp only [evalQ]
   cases hl : args.toList with
   | nil => cases b <;> cases tys[0]? <;> rfl
   | cons x t => cases t with
    | nil => cases b <;> cases tys[0]? <;> first | rfl | (dsimp only; rw [h2 x (by rw [hl]; simp)])
    | cons y u => cases u with
     | nil => cases b <;> cases tys[0]? <;> first | rfl | (dsimp only; rw [h2 x (by rw [hl]; simp), h2 y (by rw [hl]; simp)])
     | cons z u => cases b <;> cases tys[0]? <;> rfl
  | value f => rfl
  | invoke r m => rfl
 ·cases hr
theorem evalQ_load {T : TypeId → Option TyD} {m : Bool} {s' : St} {r : Prop × V} (hm : isLoad o = true) (hq : evalQ T m s o.op = some r) (h : ∀ t ∈ o.looksAt all, s'.tmps t = s.tmps t) (hb : ∀ k b, keyOf s o = some k → s.blk k = some b → s'.blk k = some b) : evalQ T m s' o.op = some r := by
 have hop := fun y hy => opd_agree (s := s) (s' := s') (o := o) (all := all) (y := y) hy h
 unfold isLoad at hm
 rw [Bool.and_eq_true] at hm
 have hr := hm.1
 split at hr
 ·rename_i t y e
  unfold keyOf at hb
  rw [e] at hop hq hb ⊢
  simp only [evalQ, hop y (by simp [Op.operands])] at hq hb ⊢
  cases hT : T t with
  | none => rw [hT] at hq; cases hq
  | some td =>
   rw [hT] at hq
   cases hy : s.opd y with
   | ptr k o1 =>
    rw [hy] at hq hb
    cases hk : s.blk k with
    | none => simp only [hk] at hq; cases hq
    | some b => simp only [hb k b rfl hk]; simp only [hk] at hq; exact hq
   | eptr k sz i o1 =>
    rw [hy] at hq hb
    cases hk : s.blk k with
    | none => simp only [hk] at hq; cases hq
    | some b => simp only [hb k b rfl hk]; simp only [hk] at hq; exact hq
   | d x => rw [hy] at hq; cases x <;> first | exact hq | cases hq
   | _ => rw [hy] at hq; cases hq
 ·cases hr
theorem awpR_consQ {x : V} {d : Tmp} (m : Bool) {C : Prop} (hg : gd all s o = some true) (hq : evalF X.T m s o.op = some (C, x)) (hC : C) (hf : chkV all x = true) (hx : (!ex || chkLd all (keyOf s o) o) = true) (hdst : o.dst = some d) (hd : dstOk X.N (some d) = true) (k : awpR ex X all pre rest Q (s.put (some d) x)) : awpR ex X all (o :: pre) rest Q s := by
 rw [← hdst] at hd k
 obtain ⟨s1, h1, h2⟩ := k
 refine ⟨s1, .cons hd (m_q m hg hq hC) (fun hm s' hs' => m_q m ((gd_agree hs').trans hg) ?_ hC) (isAlloc_no fun e he => ?_) hf (fun hm s' hs' hb => m_q m ((gd_agree hs').trans hg) ?_ hC) (fun e => by subst e; simpa using hx) h1, h2⟩
 ·rw [evalF_eq] at hq ⊢
  rw [evalQ_move hm hs']; exact hq
 ·rw [evalF_eq, he] at hq
  simp only [evalQ] at hq
  cases hq
 ·rw [evalF_eq] at hq ⊢
  exact evalQ_load hm hq hs' hb
theorem awpR_store {k : Nat} {b b0 : Blk} (hs : isStore o = true) (hdst : o.dst = none) (hk : s.blk k = some b0) (hl : b.ln = b0.ln) (hkk : chkK all o k = true) (hf : chkB all b = true) (h : S1 X all s o k b) (hx : (!ex || chkSt all o k) = true) (kk : awpR ex X all pre rest Q (s.withBlk k b)) : awpR ex X all (o :: pre) rest Q s := by
 obtain ⟨s1, h1, h2⟩ := kk
 exact ⟨s1, .store hs hdst hk hl hkk hf h (fun e => by subst e; simpa using hx) h1, h2⟩
theorem stepRStore {α : Type} {en : α → List D} {z : α} {l : List α} {td : TyD} {t ety : TypeId} {addr x : Operand} {k sz i f : Nat} {y : D} {cs : List D} {a' : α} (hkk : Nat.beq (opK o.op) 1 = true) (hop : o.op = .store t addr x) (hdst : o.dst = none) (hg : gd all s o = some true) (ht : X.T t = some td) (ha : s.opd addr = .eptr k sz i f) (hk : s.blk k = some (.data ety sz en z l)) (hx : s.opd x = .d y) (hst : ((V.d y).storable && Nat.beq y.cells.length td.size) = true) (hp : putL (en (l.getD i z)) f y.cells = some cs) (hle : LeL cs (en a')) (hi : i < l.length) (hck : chkK all o k = true) (hxx : (!ex || chkSt all o k) = true) (r : awpR ex X all pre rest Q (s.withBlk k (.data ety sz en z (l.set i a')))) : awpR ex X all (o :: pre) rest Q s := by
 obtain ⟨dst, op, ty, pos, after, g⟩ := o
 cases hop; cases hdst
 refine awpR_store rfl rfl hk (by simp only [Blk.ln, List.length_set]) hck rfl (fun s' hb _ htm => ?_) hxx r
 exact e_store X.ok ((gd_agree htm).trans hg) ht ((opd_agree (by simp [Op.operands]) htm).trans ha) (hb.bl _ _ hk) ((opd_agree (by simp [Op.operands]) htm).trans hx) hst hp hle hi
theorem stepRStoreB {td : TyD} {t ety : TypeId} {addr x : Operand} {k i : Nat} {cs cs' : List V} {xv : V} (hkk : Nat.beq (opK o.op) 1 = true) (hop : o.op = .store t addr x) (hdst : o.dst = none) (hg : gd all s o = some true) (ht : X.T t = some td) (ha : s.opd addr = .ptr k i) (hk : s.blk k = some (.box ety cs)) (hx : s.opd x = xv) (hst : (xv.storable && Nat.beq xv.cells.length td.size) = true) (hp : putL cs i xv.cells = some cs') (hck : chkK all o k = true) (hf : chkB all (.box ety cs') = true) (hxx : (!ex || chkSt all o k) = true) (r : awpR ex X all pre rest Q (s.withBlk k (.box ety cs'))) : awpR ex X all (o :: pre) rest Q s := by
 obtain ⟨dst, op, ty, pos, after, g⟩ := o
 cases hop; cases hdst
 refine awpR_store (b := .box ety cs') rfl rfl hk rfl hck hf (fun s' hb _ htm => ?_) hxx r
 have h1 : s'.opd addr = .ptr k i := (opd_agree (o := ⟨none, .store t addr x, ty, pos, after, g⟩) (all := all) (by simp [Op.operands]) htm).trans ha
 have h2 : s'.opd x = xv := (opd_agree (o := ⟨none, .store t addr x, ty, pos, after, g⟩) (all := all) (by simp [Op.operands]) htm).trans hx
 have he : evalE X.T s' none (.store t addr x) = some (none, s'.withBlk k (.box ety cs')) := by
  simp only [evalE, ht, h1, hb.bl _ _ hk, h2, hst, hp]
 exact e_eff X.ok ((gd_agree htm).trans hg) rfl (fun d e => by cases e) he
theorem stepRAlloc {d : Tmp} {e : TypeId} {ed : TyD} (hkk : Nat.beq (opK o.op) 2 = true) (hop : o.op = .alloc e) (hdst : o.dst = some d) (hgn : o.guard = none) (he : X.T e = some ed) (hst : (V.d (D.ofV ed.zero)).storable = true) (hn : s.blk d = none) (hd : dstOk X.N (some d) = true) (hK : X.K.contains d = false) (hf : chkB all (.box e (V.d (D.ofV ed.zero)).cells) = true) (r : awpR ex X all pre rest Q ((s.withBlk d (.box e (V.d (D.ofV ed.zero)).cells)).put (some d) (.ptr d 0))) : awpR ex X all (o :: pre) rest Q s := by
 obtain ⟨dst, op, ty, pos, after, g⟩ := o
 cases hop; cases hdst; cases hgn
 obtain ⟨s1, h1, h2⟩ := r
 refine ⟨s1, .alloc rfl rfl hn rfl hf (fun s' hs' => ?_) h1, h2⟩
 have hev : evalE X.T s' (some d) (.alloc e) = some (some (.ptr d 0), s'.new d (.box e (V.d (D.ofV ed.zero)).cells)) := by
  simp only [evalE, he, hst]
 have hnew : s'.new d (.box e (V.d (D.ofV ed.zero)).cells) = s'.withBlk d (.box e (V.d (D.ofV ed.zero)).cells) := by unfold St.new; rw [hs'.sub]
 rw [← hnew]
 exact e_eff X.ok (all := all) (o := ⟨some d, .alloc e, ty, pos, after, none⟩) (s := s') rfl hd (fun d' e => by cases e; exact hK) hev
theorem put_self {s : St} {d : Tmp} {x : V} (h : s.tmps d = x) : s.put (some d) x = s := by
 have : (s.put (some d) x).tmps = s.tmps := by
  funext t
  simp only [St.put]
  cases hb : Nat.beq t d with
  | true => have := Nat.eq_of_beq_eq_true hb; subst this; simp [h]
  | false => rfl
 cases s
 simp only [St.put] at this ⊢
 rw [this]
theorem stepRQ {d : Tmp} {C : Prop} {x : V} (m : Bool) (hk : Nat.beq (opK o.op) 0 = true) (hg : gd all s o = some true) (hdst : o.dst = some d) (hd : dstOk X.N (some d) = true) (hq : evalF X.T m s o.op = some (C, x)) (hC : C) (hf : chkV all x = true) (hx : (!ex || chkLd all (keyOf s o) o) = true) (k : awpR ex X all pre rest Q (s.put (some d) x)) : awpR ex X all (o :: pre) rest Q s := awpR_consQ m hg hq hC hf hx hdst hd k
theorem stepROff {d : Tmp} (hg : gd all s o = some false) (hdst : o.dst = some d) (hd : dstOk X.N (some d) = true) (hna : isAlloc o = false) (k : awpR ex X all pre rest Q (s.put (some d) (.d (.tup [])))) : awpR ex X all (o :: pre) rest Q s := awpR_cons (isMove_off hg) hna (isLoad_off hg) hdst hd (m_off hg) k
theorem stepRLit {d : Tmp} {e : TypeId} {sz len : Nat} {rows : List (List D)} (hkk : Nat.beq (opK o.op) 5 = true) (h : evalB X.T s o.op = some (e, sz, len, rows)) (hdst : o.dst = some d) (hg : gd all s o = some true) (hd : dstOk X.N (some d) = true) (k : awpR ex X all pre rest Q (s.put (some d) (.d (.sl sz (nth [] rows) 0 (iota len 0))))) : awpR ex X all (o :: pre) rest Q s := awpR_cons (isMove_k hkk (by decide)) (isAlloc_k hkk (by decide)) (isLoad_k hkk (by decide)) hdst hd (m_lit X.ok hg h) k
theorem stepRLitF {d : Tmp} {e : TypeId} {sz len : Nat} {rows : List (List D)} (hkk : Nat.beq (opK o.op) 5 = true) (hdst : o.dst = some d) (hla : (litApp d pre || litApp d rest) = true) (h : evalB X.T s o.op = some (e, sz, len, rows)) (hg : gd all s o = some true) (hd : dstOk X.N (some d) = true) (k : awpR ex X all pre rest Q (s.put (some d) (.d (.full (.sl sz (nth [] rows) 0 (iota len 0)))))) : awpR ex X all (o :: pre) rest Q s := awpR_cons (isMove_k hkk (by decide)) (isAlloc_k hkk (by decide)) (isLoad_k hkk (by decide)) hdst hd (m_litF X.ok hg h) k
theorem stepRB2S {d : Tmp} {src dst e : TypeId} {y : Operand} {sd ed dd : TyD} {l : List UInt8} {d1 : D} (hop : o.op = .convert src dst y) (hdst : o.dst = some d) (hs : X.T src = some sd) (hsd : sd.desc = .slice e) (hdt : X.T dst = some dd) (hdd : dd.desc = .string) (he : X.T e = some ed) (hed : ed.desc = .int .u8) (hg : gd all s o = some true) (hd : dstOk X.N (some d) = true) (hy : s.opd y = .d d1) (le : LeD d1 (.sl 1 eB 0 l)) (k : awpR ex X all pre rest Q (s.put (some d) (.d (.str l)))) : awpR ex X all (o :: pre) rest Q s := awpR_cons (isMove_conv hop) (isAlloc_conv hop) (isLoad_conv hop) hdst hd (m_b2s X.ok hop hg hs hsd he hed hdt hdd hy le) k
theorem stepRB2SO {d : Tmp} {src dst e : TypeId} {y : Operand} {sd ed dd : TyD} {l : List UInt8} {k o1 n : Nat} {ty ty' : TypeId} {z : UInt8} (hop : o.op = .convert src dst y) (hdst : o.dst = some d) (hs : X.T src = some sd) (hsd : sd.desc = .slice e) (hdt : X.T dst = some dd) (hdd : dd.desc = .string) (he : X.T e = some ed) (hed : ed.desc = .int .u8) (hg : gd all s o = some true) (hd : dstOk X.N (some d) = true) (hy : s.opd y = .own k o1 n ty 1) (hk : s.blk k = some (.data ty' 1 eB z l)) (r : awpR ex X all pre rest Q (s.put (some d) (.d (.str (cut o1 n l))))) : awpR ex X all (o :: pre) rest Q s := awpR_cons (isMove_conv hop) (isAlloc_conv hop) (isLoad_conv hop) hdst hd (m_b2sO X.ok hop hg hs hsd he hed hdt hdd hy hk) r
theorem stepRS2B {d : Tmp} {src dst e : TypeId} {y : Operand} {sd ed dd : TyD} {l : List UInt8} (hop : o.op = .convert src dst y) (hdst : o.dst = some d) (hs : X.T src = some sd) (hsd : sd.desc = .string) (hdt : X.T dst = some dd) (hdd : dd.desc = .slice e) (he : X.T e = some ed) (hed : ed.desc = .int .u8) (hg : gd all s o = some true) (hd : dstOk X.N (some d) = true) (hy : s.opd y = .d (.str l)) (k : awpR ex X all pre rest Q (s.put (some d) (.d (.sl 1 eB 0 l)))) : awpR ex X all (o :: pre) rest Q s := awpR_cons (isMove_conv hop) (isAlloc_conv hop) (isLoad_conv hop) hdst hd (m_s2b X.ok hop hg hs hsd hdt hdd he hed hy) k
theorem stepRAppF {d : Tmp} {α : Type} {en : α → List D} {z : α} {l l2 : List α} {td ed : TyD} {d1 d2 : D} {t : TypeId} {c : Call} {x y : Operand} {e : TypeId} (hkk : Nat.beq (opK o.op) 3 = true) (hop : o.op = .call c) (hc : c = ⟨.builtin .append, #[x, y], #[t, t]⟩) (hdst : o.dst = some d) (hx : s.opd x = .d (.full d1)) (hg : gd all s o = some true) (hd : dstOk X.N (some d) = true) (ht : X.T t = some td) (hds : td.desc = .slice e) (he : X.T e = some ed) (hz : zeroOk ed = true) (hy : s.opd y = .d d2) (le2 : LeD d2 (.sl ed.size en z l2)) (le1 : LeD d1 (.sl ed.size en z l)) (hb : l.length + l2.length ≤ 9223372036854775807 ∧ (l.length + l2.length) * ed.bytes ≤ 140737488355328) (k : awpR ex X all pre rest Q (s.put (some d) (.d (.sl ed.size en z (l ++ l2))))) : awpR ex X all (o :: pre) rest Q s := awpR_cons (isMove_call hop (by rw [hc]; rfl)) (isAlloc_call hop) (isLoad_call hop) hdst hd (m_appF' hop hc hg ht hds he hx hz hy le2 le1 hb) k
theorem awpR_guard {d : Tmp} {b : Bool} (hd : s.tmps d = .d (.bool b)) (h1 : b = true → awpR ex X all pre rest Q (s.put (some d) (.d (.bool true)))) (h2 : b = false → awpR ex X all pre rest Q (s.put (some d) (.d (.bool false)))) : awpR ex X all pre rest Q s := by
 cases b with
 | true => have := h1 rfl; rwa [put_self hd] at this
 | false => have := h2 rfl; rwa [put_self hd] at this
theorem awp_regE {ex : Bool} (id n : Nat) (ks : List Nat) {ops : List Oper} (hm : X.P.follows .mixedOrders = true) (hok : ordOk ex ops.toArray n = true) (hak : allocKeys ops.toArray = ks) (hK : (ks.all fun k => !(X.K.contains k)) = true) (h : awpR ex X ops.toArray (ops.take n) (ops.drop n) Q (s.kills ks)) : awp X (.region id ops.toArray true) Q s := by
 subst hak
 obtain ⟨s1, h1, h2⟩ := h
 exact awp_region_ord hm n hok hK h1 h2
theorem awp_regK (id n : Nat) (ks : List Nat) {ops : List Oper} (hm : X.P.follows .mixedOrders = true) (hok : ordOk false ops.toArray n = true) (hak : allocKeys ops.toArray = ks) (hK : (ks.all fun k => !(X.K.contains k)) = true) (h : awpR false X ops.toArray (ops.take n) (ops.drop n) Q (s.kills ks)) : awp X (.region id ops.toArray true) Q s := awp_regE id n ks hm hok hak hK h
theorem awp_reg (id n : Nat) {ops : List Oper} (hm : X.P.follows .mixedOrders = true) (hok : ordOk false ops.toArray n = true) (hak : allocKeys ops.toArray = []) (h : awpR false X ops.toArray (ops.take n) (ops.drop n) Q s) : awp X (.region id ops.toArray true) Q s := awp_regK id n [] hm hok hak rfl h
end
def guardOf (all : Array Oper) (o : Oper) : Option Tmp := match o.guard with | none => none | some (g, _) => (all[g]?).bind (·.dst)
section
variable {ex : Bool} {X : Ctx} {all : Array Oper} {Q : Exit → St → Prop} {s : St} {o : Oper} {pre rest : List Oper} {d : Tmp}
theorem gdL {b : Bool} (hg : guardOf all o = some d) (hd : s.tmps d = .d (.bool b)) (h1 : b = true → awpL X all (o :: rest) Q (s.put (some d) (.d (.bool true)))) (h2 : b = false → awpL X all (o :: rest) Q (s.put (some d) (.d (.bool false)))) : awpL X all (o :: rest) Q s := awpL_guard hd h1 h2
theorem gdR {b : Bool} (hg : guardOf all o = some d) (hd : s.tmps d = .d (.bool b)) (h1 : b = true → awpR ex X all (o :: pre) rest Q (s.put (some d) (.d (.bool true)))) (h2 : b = false → awpR ex X all (o :: pre) rest Q (s.put (some d) (.d (.bool false)))) : awpR ex X all (o :: pre) rest Q s := awpR_guard hd h1 h2
end
section
variable {ex : Bool} {X : Ctx} {all : Array Oper} {Q : Exit → St → Prop} {s : St} {o : Oper} {pre rest : List Oper} {d : Tmp} {p : Prop} [Decidable p]
theorem gdLD (hg : guardOf all o = some d) (hd : s.tmps d = .d (.bool (decide p))) (h1 : p → awpL X all (o :: rest) Q (s.put (some d) (.d (.bool true)))) (h2 : ¬ p → awpL X all (o :: rest) Q (s.put (some d) (.d (.bool false)))) : awpL X all (o :: rest) Q s := awpL_guard hd (fun e => h1 (of_decide_eq_true e)) (fun e => h2 (of_decide_eq_false e))
theorem gdLN (hg : guardOf all o = some d) (hd : s.tmps d = .d (.bool (!decide p))) (h1 : ¬ p → awpL X all (o :: rest) Q (s.put (some d) (.d (.bool true)))) (h2 : p → awpL X all (o :: rest) Q (s.put (some d) (.d (.bool false)))) : awpL X all (o :: rest) Q s := awpL_guard hd (fun e => h1 (of_decide_eq_false (by simpa using e))) (fun e => h2 (of_decide_eq_true (by simpa using e)))
theorem gdRD (hg : guardOf all o = some d) (hd : s.tmps d = .d (.bool (decide p))) (h1 : p → awpR ex X all (o :: pre) rest Q (s.put (some d) (.d (.bool true)))) (h2 : ¬ p → awpR ex X all (o :: pre) rest Q (s.put (some d) (.d (.bool false)))) : awpR ex X all (o :: pre) rest Q s := awpR_guard hd (fun e => h1 (of_decide_eq_true e)) (fun e => h2 (of_decide_eq_false e))
theorem gdRN (hg : guardOf all o = some d) (hd : s.tmps d = .d (.bool (!decide p))) (h1 : ¬ p → awpR ex X all (o :: pre) rest Q (s.put (some d) (.d (.bool true)))) (h2 : p → awpR ex X all (o :: pre) rest Q (s.put (some d) (.d (.bool false)))) : awpR ex X all (o :: pre) rest Q s := awpR_guard hd (fun e => h1 (of_decide_eq_false (by simpa using e))) (fun e => h2 (of_decide_eq_true (by simpa using e)))
end
theorem goL {G : Prop} {X : Ctx} {all : Array Oper} {ops : List Oper} {Q : Exit → St → Prop} {s : St} (k : G) (h : G → awpL X all ops Q s := by
 first
 | exact Go.Vw.stepQ true Go.Vw.tt Go.Vw.stt rfl rfl rfl Go.Vw.sc
 | exact Go.Vw.awpL_nil
 | exact Go.Vw.stepOff Go.Vw.sff rfl rfl
 | exact Go.Vw.stepStore Go.Vw.tt rfl rfl rfl rfl rfl rfl rfl rfl rfl Go.Vw.leL Go.Vw.sc
 | exact Go.Vw.stepStoreV Go.Vw.tt rfl rfl rfl rfl rfl rfl rfl rfl Go.Vw.sc
 | exact Go.Vw.stepAppF Go.Vw.tt rfl rfl rfl rfl rfl rfl rfl rfl rfl rfl rfl (Go.Vw.LeD.refl _) (Go.Vw.LeD.lit rfl (Go.Vw.LeR.cons rfl Go.Vw.leL Go.Vw.LeR.nil)) Go.Vw.sc
 | exact Go.Vw.stepAppF Go.Vw.tt rfl rfl rfl rfl rfl rfl rfl rfl rfl rfl rfl (Go.Vw.LeD.refl _) (Go.Vw.LeD.lit rfl Go.Vw.LeR.nil) Go.Vw.sc
 | exact Go.Vw.stepApp Go.Vw.tt rfl rfl rfl rfl rfl rfl rfl rfl rfl rfl rfl rfl Go.Vw.sc Go.Vw.srcOk Go.Vw.sc
 | exact Go.Vw.stepAppNil Go.Vw.tt rfl rfl rfl rfl rfl rfl rfl rfl rfl rfl rfl Go.Vw.srcZ Go.Vw.sc
 | exact Go.Vw.stepE1 Go.Vw.tt rfl rfl rfl rfl rfl
 | exact Go.Vw.stepE0 Go.Vw.tt rfl rfl rfl
 | exact Go.Vw.stepLitF Go.Vw.tt rfl Go.Vw.tt rfl rfl rfl
 | exact Go.Vw.stepLit Go.Vw.tt rfl rfl rfl rfl
 | exact Go.Vw.stepMake (mm := true) (en := Go.Vw.eN .u32) (z := 0) Go.Vw.tt rfl rfl rfl rfl rfl rfl rfl rfl rfl rfl rfl rfl Go.Vw.leL Go.Vw.sc Go.Vw.sc
 | exact Go.Vw.stepMake (mm := false) (en := Go.Vw.eN .u32) (z := 0) Go.Vw.tt rfl rfl rfl rfl rfl rfl rfl rfl rfl rfl rfl rfl Go.Vw.leL Go.Vw.sc Go.Vw.sc
 | exact Go.Vw.stepMake (mm := true) (en := Go.Vw.eI .i64) (z := 0) Go.Vw.tt rfl rfl rfl rfl rfl rfl rfl rfl rfl rfl rfl rfl Go.Vw.leL Go.Vw.sc Go.Vw.sc
 | exact Go.Vw.stepMake (mm := false) (en := Go.Vw.eI .i64) (z := 0) Go.Vw.tt rfl rfl rfl rfl rfl rfl rfl rfl rfl rfl rfl rfl Go.Vw.leL Go.Vw.sc Go.Vw.sc
 | exact Go.Vw.stepQ false Go.Vw.tt Go.Vw.stt rfl rfl rfl Go.Vw.sc
 | exact Go.Vw.stepB2S rfl rfl rfl rfl rfl rfl rfl rfl rfl rfl rfl (Go.Vw.LeD.refl _)
 | exact Go.Vw.stepB2SO rfl rfl rfl rfl rfl rfl rfl rfl rfl rfl rfl rfl
 | exact Go.Vw.stepS2B rfl rfl rfl rfl rfl rfl rfl rfl rfl rfl rfl
 | exact Go.Vw.stepB2S rfl rfl rfl rfl rfl rfl rfl rfl rfl rfl rfl (Go.Vw.LeD.lit rfl (Go.Vw.LeR.cons rfl Go.Vw.leL Go.Vw.LeR.nil))
 | exact Go.Vw.stepM0 Go.Vw.tt rfl (Go.Vw.m_q true rfl rfl Go.Vw.sc)
 | fail) : awpL X all ops Q s := h k
theorem goN {G : Prop} {K : St → Prop} {Q : Exit → St → Prop} {e : Exit} {s : St} (k : G) (h : G → andThen K Q e s := by
 first
 | exact Go.Vw.thenN
 | exact Go.Vw.thenX
 | exact Go.Vw.thenR
 | fail) : andThen K Q e s := h k
section
variable {ex : Bool} {X : Ctx} {all : Array Oper} {Q : Exit → St → Prop} {s : St} {o : Oper} {pre rest : List Oper} {c : Call} {caps : List V} {ds' : List D} {r : D}
def CallM (X : Ctx) (all : Array Oper) (s : St) (o : Oper) (f : FuncId) (ds' : List D) (r : D) : Prop := Ret X.P f ds' (· = r) → M1 X all s o (.d r)
def CallE (X : Ctx) (all : Array Oper) (s s1 : St) (o : Oper) (f : FuncId) (ds' : List D) (r : D) : Prop := Ret X.P f ds' (· = r) → E1 X all s o (s1.put o.dst (.d r))
theorem callM_plain {f : FuncId} (hop : o.op = .call c) (hg : gd all s o = some true) (hc : calleeOf s c = some (f, caps)) (hk : (allD (c.args.toList.map s.opd ++ caps)).isSome = true) {ds : List D} (ha : allD (c.args.toList.map s.opd ++ caps) = some ds) (le : LeT ds ds') : CallM X all s o f ds' r := fun hr => m_callR hg hop hc ha le hr
theorem callM_lent {f : FuncId} (m : Bool) (hop : o.op = .call c) (hg : gd all s o = some true) (hc : calleeOf s c = some (f, caps)) (hk2 : (allD (c.args.toList.map s.opd ++ caps)).isSome = false) (hk : (V.asDs m s (c.args.toList.map s.opd ++ caps)).isSome = true) {C : Prop} {ds : List D} (ha : V.asDs m s (c.args.toList.map s.opd ++ caps) = some (C, ds)) (le : LeT ds ds') (hn : r.noRef = true) (hC : C) : CallM X all s o f ds' r := fun hr => m_callB hg hop hc m ha le hr hC hn
theorem callE_of {f : FuncId} (hd : dstOk X.N o.dst = true) (h : CallM X all s o f ds' r) : CallE X all s s o f ds' r := fun hr => (h hr).e1 hd
theorem callE_frz {f : FuncId} {s1 : St} (hop : o.op = .call c) (hc : calleeOf s c = some (f, caps)) (hkk : (ownKey (c.args.toList.map s.opd ++ caps)).isSome = true) {k : Nat} {b : Blk} (hk : ownKey (c.args.toList.map s.opd ++ caps) = some k) (hb : s.blk k = some b) (h : CallE X all (s.sub k (some b)) s1 o f ds' r) : CallE X all s s1 o f ds' r := fun hr => e_frz k hb (h hr)
def calleeIs (s : St) (op : Op) (f : FuncId) : Bool := match op with | .call c => (match calleeOf s c with | some (g, _) => Nat.beq g f | none => false) | _ => false
theorem cl {s1 : St} {d : Tmp} (f : FuncId) (hcf : calleeIs s o.op f = true) (hop : o.op = .call c) (hc : calleeOf s c = some (f, caps)) (hdst : o.dst = some d) (h : CallE X all s s1 o f ds' r := by
 first
 | exact Go.Vw.callE_of rfl (Go.Vw.callM_plain rfl rfl rfl Go.Vw.tt rfl Go.Vw.leT)
 | exact Go.Vw.callE_of rfl (Go.Vw.callM_lent true rfl rfl rfl Go.Vw.ff Go.Vw.tt rfl Go.Vw.leT rfl Go.Vw.sc)
 | exact Go.Vw.callE_of rfl (Go.Vw.callM_lent false rfl rfl rfl Go.Vw.ff Go.Vw.tt rfl Go.Vw.leT rfl Go.Vw.sc)
 | exact Go.Vw.callE_frz rfl rfl Go.Vw.tt rfl rfl (Go.Vw.callE_of rfl (Go.Vw.callM_plain rfl rfl rfl Go.Vw.tt rfl Go.Vw.leT))
 | exact Go.Vw.callE_frz rfl rfl Go.Vw.tt rfl rfl (Go.Vw.callE_frz rfl rfl Go.Vw.tt rfl rfl (Go.Vw.callE_of rfl (Go.Vw.callM_plain rfl rfl rfl Go.Vw.tt rfl Go.Vw.leT)))
 | fail) (hr : Ret X.P f ds' (· = r)) (k : awpL X all rest Q (s1.put (some d) (.d r))) : awpL X all (o :: rest) Q s := by
 rw [← hdst] at k
 exact awpL_step (h hr) k
theorem clR {d : Tmp} (f : FuncId) (hcf : calleeIs s o.op f = true) (hop : o.op = .call c) (hc : calleeOf s c = some (f, caps)) (hdst : o.dst = some d) (h : CallM X all s o f ds' r := by
 first
 | exact Go.Vw.callM_plain rfl rfl rfl Go.Vw.tt rfl Go.Vw.leT
 | exact Go.Vw.callM_lent true rfl rfl rfl Go.Vw.ff Go.Vw.tt rfl Go.Vw.leT rfl Go.Vw.sc
 | exact Go.Vw.callM_lent false rfl rfl rfl Go.Vw.ff Go.Vw.tt rfl Go.Vw.leT rfl Go.Vw.sc
 | fail) (hd : dstOk X.N (some d) = true := by exact rfl) (hr : Ret X.P f ds' (· = r)) (k : awpR ex X all pre rest Q (s.put (some d) (.d r))) : awpR ex X all (o :: pre) rest Q s :=
 awpR_cons (isMove_call hop (callee_reg hc)) (isAlloc_call hop) (isLoad_call hop) hdst hd (h hr) k
end
theorem fin {T : TypeId → Option TyD} {fn : Func} {R : D → Prop} {s : St} (m : Bool) {C : Prop} {r : D} (hd : s.dfs = []) (h : resOf T m s fn.results.toList = some (C, r)) (hR : R r) (hC : C := by exact Go.Vw.sc) : retPost T fn R .ret s := ⟨hd, m, C, r, r, h, hC, LeD.refl _, hR⟩
section
variable {T : TypeId → Option TyD} {fn : Func} {x : D} {s : St} {C : Prop} {r : D}
theorem finE (m : Bool) (hd : s.dfs = []) (h : resOf T m s fn.results.toList = some (C, r)) (hC : C) (hR : r = x) : retPost T fn (fun y => y = x) .ret s := ⟨hd, m, C, r, x, h, hC, hR ▸ LeD.refl _, rfl⟩
theorem finLe (m : Bool) (hd : s.dfs = []) (h : resOf T m s fn.results.toList = some (C, r)) (hC : C) (hR : LeD r x) : retPost T fn (fun y => y = x) .ret s := ⟨hd, m, C, r, x, h, hC, hR, rfl⟩
theorem finF (m : Bool) (hd : s.dfs = []) {sz : Nat} {α : Type} {e : α → List D} {z : α} {l l' : List α} (h : resOf T m s fn.results.toList = some (C, .sl sz e z (cut 0 l'.length l'))) (hC : C) (hR : l' = l) : retPost T fn (fun y => y = .sl sz e z l) .ret s := by
 subst hR; exact finLe m hd h hC LeD.full
theorem finC (m : Bool) (hd : s.dfs = []) {sz n : Nat} {α : Type} {e : α → List D} {z : α} {l l' : List α} (h : resOf T m s fn.results.toList = some (C, .sl sz e z (cut 0 n l'))) (hC : C) (hn : n = l'.length) (hR : l' = l) : retPost T fn (fun y => y = .sl sz e z l) .ret s := by
 subst hR; exact finLe m hd h hC (LeD.cutAll hn)
theorem finT (m : Bool) (hd : s.dfs = []) {rs ys : List D} (h : resOf T m s fn.results.toList = some (C, .tup rs)) (hC : C) (hR : LeT rs ys) : retPost T fn (fun y => y = .tup ys) .ret s := finLe m hd h hC (LeD.tup hR)
theorem finA (m : Bool) (hd : s.dfs = []) {rs ys : List D} (h : resOf T m s fn.results.toList = some (C, .agg rs)) (hC : C) (hR : LeL rs ys) : retPost T fn (fun y => y = .agg ys) .ret s := finLe m hd h hC (LeD.agg hR)
theorem finN (hd : s.dfs = []) (h : resOf T true s fn.results.toList = some (C, .nils)) (hC : C) {sz : Nat} {α : Type} {e : α → List D} {z : α} {l : List α} (hR : l = []) : retPost T fn (fun y => y = .sl sz e z l) .ret s := by
 subst hR; exact finLe true hd h hC LeD.nils
theorem finL (m : Bool) (hd : s.dfs = []) {sz n : Nat} {rows : List (List D)} (h : resOf T m s fn.results.toList = some (C, .sl sz (nth [] rows) 0 (iota n 0))) (hC : C) (hn : rows.length = n) {α : Type} {e : α → List D} {z : α} {l l' : List α} (hl : LeR sz rows e l') (hR : l' = l) : retPost T fn (fun y => y = .sl sz e z l) .ret s := by
 subst hR; exact finLe m hd h hC (LeD.lit hn hl)
end
section
variable {ex : Bool} {X : Ctx} {all : Array Oper} {Q : Exit → St → Prop} {s : St} {o : Oper} {pre rest : List Oper} {G G1 G2 : Prop}
theorem finG {T : TypeId → Option TyD} {fn : Func} {R : D → Prop} {e : Exit} (k : G) (h : G → retPost T fn R e s := by
 first
 | exact Go.Vw.finF true rfl rfl Go.Vw.sc
 | exact Go.Vw.finF false rfl rfl Go.Vw.sc
 | exact Go.Vw.finC false rfl rfl Go.Vw.sc Go.Vw.sc
 | exact Go.Vw.finN rfl rfl Go.Vw.sc
 | exact Go.Vw.finL true rfl rfl Go.Vw.sc rfl (Go.Vw.LeR.cons rfl Go.Vw.leL Go.Vw.LeR.nil)
 | exact Go.Vw.finE true rfl rfl Go.Vw.sc
 | exact Go.Vw.finE false rfl rfl Go.Vw.sc
 | fail) : retPost T fn R e s := h k
theorem finTG {T : TypeId → Option TyD} {fn : Func} {R : D → Prop} {e : Exit} (k : G) (h : G → retPost T fn R e s := by
 first
 | exact Go.Vw.finF true rfl rfl Go.Vw.sc
 | exact Go.Vw.finF false rfl rfl Go.Vw.sc
 | exact Go.Vw.finC false rfl rfl Go.Vw.sc Go.Vw.sc
 | exact Go.Vw.finN rfl rfl Go.Vw.sc
 | exact Go.Vw.finL true rfl rfl Go.Vw.sc rfl (Go.Vw.LeR.cons rfl Go.Vw.leL Go.Vw.LeR.nil)
 | exact Go.Vw.finT true rfl rfl Go.Vw.sc
 | exact Go.Vw.finT false rfl rfl Go.Vw.sc
 | exact Go.Vw.finE true rfl rfl Go.Vw.sc
 | exact Go.Vw.finE false rfl rfl Go.Vw.sc
 | fail) : retPost T fn R e s := h k
end
end Go.Vw
set_option maxRecDepth 100000
namespace Go.Proofs.YtejigedigmagdaaGreat
open Go.Vw
def T : TypeId → Option TyD
 | 1 => some ⟨.func #[] #[] false, 1, 8, .nilFunc⟩
 | 2 => some ⟨.int .i64, 1, 8, .int .i64 0⟩
 | 3 => some ⟨.int .i64, 1, 8, .int .i64 0⟩
 | 4 => some ⟨.bool, 1, 1, .bool false⟩
 | 5 => some ⟨.int .u8, 1, 1, .int .u8 0⟩
 | 6 => some ⟨.int .u8, 1, 1, .int .u8 0⟩
 | 9 => some ⟨.string, 1, 16, .string .empty⟩
 | 10 => some ⟨.string, 1, 16, .string .empty⟩
 | 11 => some ⟨.string, 1, 16, .string .empty⟩
 | 12 => some ⟨.int .u64, 1, 8, .int .u64 0⟩
 | 15 => some ⟨.pointer 191, 1, 8, .pointer none⟩
 | 16 => some ⟨.pointer 194, 1, 8, .pointer none⟩
 | 17 => some ⟨.pointer 203, 1, 8, .pointer none⟩
 | 21 => some ⟨.int .i32, 1, 4, .int .i32 0⟩
 | 22 => some ⟨.slice 27, 1, 24, .slice none 0 0⟩
 | 23 => some ⟨.slice 111, 1, 24, .slice none 0 0⟩
 | 24 => some ⟨.struct #[⟨ "Neg", 4, 0, false, "", "", 0⟩, ⟨ "Mag", 23, 1, false, "", "", 8⟩], 2, 32, .agg #[.bool false, .slice none 0 0]⟩
 | 25 => some ⟨.struct #[⟨ "Neg", 4, 0, false, "", "", 0⟩, ⟨ "Mag", 23, 1, false, "", "", 8⟩], 2, 32, .agg #[.bool false, .slice none 0 0]⟩
 | 26 => some ⟨.struct #[⟨ "Num", 25, 0, false, "", "", 0⟩, ⟨ "Den", 23, 2, false, "", "", 32⟩], 3, 56, .agg #[.bool false, .slice none 0 0, .slice none 0 0]⟩
 | 27 => some ⟨.struct #[⟨ "Num", 25, 0, false, "", "", 0⟩, ⟨ "Den", 23, 2, false, "", "", 32⟩], 3, 56, .agg #[.bool false, .slice none 0 0, .slice none 0 0]⟩
 | 28 => some ⟨.func #[22] #[4] false, 1, 8, .nilFunc⟩
 | 29 => some ⟨.func #[27] #[4] false, 1, 8, .nilFunc⟩
 | 30 => some ⟨.func #[] #[4] false, 1, 8, .nilFunc⟩
 | 31 => some ⟨.struct #[⟨ "Lo", 27, 0, false, "", "", 0⟩, ⟨ "Hi", 27, 3, false, "", "", 56⟩], 6, 112, .agg #[.bool false, .slice none 0 0, .slice none 0 0, .bool false, .slice none 0 0, .slice none 0 0]⟩
 | 32 => some ⟨.struct #[⟨ "Lo", 27, 0, false, "", "", 0⟩, ⟨ "Hi", 27, 3, false, "", "", 56⟩], 6, 112, .agg #[.bool false, .slice none 0 0, .slice none 0 0, .bool false, .slice none 0 0, .slice none 0 0]⟩
 | 33 => some ⟨.int .i64, 1, 8, .int .i64 0⟩
 | 35 => some ⟨.func #[22, 27] #[32, 33] false, 1, 8, .nilFunc⟩
 | 36 => some ⟨.func #[32, 32] #[4] false, 1, 8, .nilFunc⟩
 | 37 => some ⟨.func #[22, 27] #[4] false, 1, 8, .nilFunc⟩
 | 38 => some ⟨.slice 3, 1, 24, .slice none 0 0⟩
 | 39 => some ⟨.func #[38, 3] #[22] false, 1, 8, .nilFunc⟩
 | 40 => some ⟨.func #[3] #[27] false, 1, 8, .nilFunc⟩
 | 41 => some ⟨.func #[3, 3] #[3] false, 1, 8, .nilFunc⟩
 | 42 => some ⟨.slice 32, 1, 24, .slice none 0 0⟩
 | 43 => some ⟨.struct #[⟨ "Points", 42, 0, false, "", "", 0⟩, ⟨ "Flat", 42, 1, false, "", "", 24⟩], 2, 48, .agg #[.slice none 0 0, .slice none 0 0]⟩
 | 44 => some ⟨.struct #[⟨ "Points", 42, 0, false, "", "", 0⟩, ⟨ "Flat", 42, 1, false, "", "", 24⟩], 2, 48, .agg #[.slice none 0 0, .slice none 0 0]⟩
 | 46 => some ⟨.func #[22, 27, 3] #[44, 33] false, 1, 8, .nilFunc⟩
 | 47 => some ⟨.func #[22, 27, 3, 44] #[4] false, 1, 8, .nilFunc⟩
 | 48 => some ⟨.func #[38, 3, 3] #[4] false, 1, 8, .nilFunc⟩
 | 49 => some ⟨.func #[22] #[22] false, 1, 8, .nilFunc⟩
 | 51 => some ⟨.func #[32, 32] #[32, 4] false, 1, 8, .nilFunc⟩
 | 52 => some ⟨.func #[38, 3] #[4] false, 1, 8, .nilFunc⟩
 | 53 => some ⟨.func #[27, 27] #[27] false, 1, 8, .nilFunc⟩
 | 54 => some ⟨.func #[27, 27] #[4] false, 1, 8, .nilFunc⟩
 | 55 => some ⟨.func #[38, 3, 3, 3] #[4] false, 1, 8, .nilFunc⟩
 | 57 => some ⟨.func #[22] #[27, 27, 33] false, 1, 8, .nilFunc⟩
 | 59 => some ⟨.func #[22, 27, 27] #[27, 33] false, 1, 8, .nilFunc⟩
 | 60 => some ⟨.func #[27] #[3] false, 1, 8, .nilFunc⟩
 | 61 => some ⟨.func #[38] #[22] true, 1, 8, .nilFunc⟩
 | 62 => some ⟨.func #[22, 27] #[33] false, 1, 8, .nilFunc⟩
 | 63 => some ⟨.func #[22, 27] #[22] false, 1, 8, .nilFunc⟩
 | 64 => some ⟨.func #[22, 27, 27] #[27] false, 1, 8, .nilFunc⟩
 | 65 => some ⟨.func #[22, 29] #[3] false, 1, 8, .nilFunc⟩
 | 66 => some ⟨.func #[32, 32] #[32] false, 1, 8, .nilFunc⟩
 | 67 => some ⟨.func #[27, 27] #[27, 33] false, 1, 8, .nilFunc⟩
 | 68 => some ⟨.func #[22, 27, 3] #[33] false, 1, 8, .nilFunc⟩
 | 69 => some ⟨.func #[22, 27, 27, 27] #[27] false, 1, 8, .nilFunc⟩
 | 70 => some ⟨.func #[27] #[27] false, 1, 8, .nilFunc⟩
 | 71 => some ⟨.func #[3, 3] #[27] false, 1, 8, .nilFunc⟩
 | 72 => some ⟨.func #[22, 27] #[42] false, 1, 8, .nilFunc⟩
 | 73 => some ⟨.func #[22, 27, 27] #[22] false, 1, 8, .nilFunc⟩
 | 74 => some ⟨.func #[32] #[27] false, 1, 8, .nilFunc⟩
 | 75 => some ⟨.func #[22, 27, 27, 27] #[42] false, 1, 8, .nilFunc⟩
 | 76 => some ⟨.func #[42, 78] #[4] false, 1, 8, .nilFunc⟩
 | 77 => some ⟨.func #[32, 27] #[4] false, 1, 8, .nilFunc⟩
 | 78 => some ⟨.func #[32] #[4] false, 1, 8, .nilFunc⟩
 | 79 => some ⟨.func #[22, 27] #[27] false, 1, 8, .nilFunc⟩
 | 80 => some ⟨.func #[22, 27] #[3] false, 1, 8, .nilFunc⟩
 | 81 => some ⟨.func #[22, 27, 32] #[3] false, 1, 8, .nilFunc⟩
 | 82 => some ⟨.func #[32] #[32] false, 1, 8, .nilFunc⟩
 | 83 => some ⟨.func #[25, 25] #[27] false, 1, 8, .nilFunc⟩
 | 84 => some ⟨.func #[25, 25] #[25] false, 1, 8, .nilFunc⟩
 | 85 => some ⟨.func #[27] #[25] false, 1, 8, .nilFunc⟩
 | 86 => some ⟨.func #[25, 25] #[4] false, 1, 8, .nilFunc⟩
 | 87 => some ⟨.func #[23, 23] #[4] false, 1, 8, .nilFunc⟩
 | 88 => some ⟨.func #[3] #[25] false, 1, 8, .nilFunc⟩
 | 89 => some ⟨.func #[22, 3] #[33] false, 1, 8, .nilFunc⟩
 | 91 => some ⟨.func #[22] #[27, 27] false, 1, 8, .nilFunc⟩
 | 92 => some ⟨.func #[27, 27] #[3] false, 1, 8, .nilFunc⟩
 | 93 => some ⟨.func #[25] #[3] false, 1, 8, .nilFunc⟩
 | 94 => some ⟨.func #[27, 27, 27] #[4] false, 1, 8, .nilFunc⟩
 | 95 => some ⟨.func #[27, 22] #[32] true, 1, 8, .nilFunc⟩
 | 96 => some ⟨.func #[25, 25] #[27, 33] false, 1, 8, .nilFunc⟩
 | 97 => some ⟨.func #[25, 23] #[25] false, 1, 8, .nilFunc⟩
 | 98 => some ⟨.func #[27] #[23] false, 1, 8, .nilFunc⟩
 | 99 => some ⟨.func #[25, 23] #[27] false, 1, 8, .nilFunc⟩
 | 100 => some ⟨.func #[23, 23] #[23] false, 1, 8, .nilFunc⟩
 | 101 => some ⟨.func #[27, 27] #[32, 33] false, 1, 8, .nilFunc⟩
 | 102 => some ⟨.func #[22] #[22] true, 1, 8, .nilFunc⟩
 | 103 => some ⟨.func #[22, 22] #[22] false, 1, 8, .nilFunc⟩
 | 105 => some ⟨.func #[22, 27, 27] #[42, 33] false, 1, 8, .nilFunc⟩
 | 106 => some ⟨.func #[22, 32, 78] #[32] false, 1, 8, .nilFunc⟩
 | 107 => some ⟨.func #[42, 78] #[3] false, 1, 8, .nilFunc⟩
 | 108 => some ⟨.func #[140] #[] false, 1, 8, .nilFunc⟩
 | 109 => some ⟨.func #[140] #[] false, 1, 8, .nilFunc⟩
 | 110 => some ⟨.func #[22] #[109] false, 1, 8, .nilFunc⟩
 | 111 => some ⟨.int .u32, 1, 4, .int .u32 0⟩
 | 112 => some ⟨.func #[22, 32, 27, 27] #[3] false, 1, 8, .nilFunc⟩
 | 113 => some ⟨.func #[25] #[25] false, 1, 8, .nilFunc⟩
 | 114 => some ⟨.func #[23] #[23] false, 1, 8, .nilFunc⟩
 | 115 => some ⟨.func #[25, 25] #[23] false, 1, 8, .nilFunc⟩
 | 117 => some ⟨.func #[25, 25] #[25, 25, 4] false, 1, 8, .nilFunc⟩
 | 118 => some ⟨.func #[23] #[4] false, 1, 8, .nilFunc⟩
 | 119 => some ⟨.func #[4, 23] #[25] false, 1, 8, .nilFunc⟩
 | 121 => some ⟨.func #[23, 23] #[23, 4] false, 1, 8, .nilFunc⟩
 | 122 => some ⟨.func #[123] #[23] false, 1, 8, .nilFunc⟩
 | 123 => some ⟨.int .u64, 1, 8, .int .u64 0⟩
 | 124 => some ⟨.func #[22, 54] #[22] false, 1, 8, .nilFunc⟩
 | 125 => some ⟨.func #[] #[23] false, 1, 8, .nilFunc⟩
 | 127 => some ⟨.func #[23, 23] #[23, 23, 4] false, 1, 8, .nilFunc⟩
 | 128 => some ⟨.func #[23, 23] #[3] false, 1, 8, .nilFunc⟩
 | 129 => some ⟨.int .u64, 1, 8, .int .u64 0⟩
 | 130 => some ⟨.func #[22, 22, 53] #[22] false, 1, 8, .nilFunc⟩
 | 132 => some ⟨.func #[22, 22] #[22, 22, 33] false, 1, 8, .nilFunc⟩
 | 133 => some ⟨.func #[22] #[3] false, 1, 8, .nilFunc⟩
 | 134 => some ⟨.slice 22, 1, 24, .slice none 0 0⟩
 | 135 => some ⟨.slice 22, 1, 24, .slice none 0 0⟩
 | 136 => some ⟨.func #[22] #[135] false, 1, 8, .nilFunc⟩
 | 137 => some ⟨.func #[32] #[42] false, 1, 8, .nilFunc⟩
 | 138 => some ⟨.func #[22, 27, 27] #[3] false, 1, 8, .nilFunc⟩
 | 139 => some ⟨.func #[25, 25] #[3] false, 1, 8, .nilFunc⟩
 | 140 => some ⟨.func #[3, 27] #[4] false, 1, 8, .nilFunc⟩
 | 141 => some ⟨.func #[25] #[4] false, 1, 8, .nilFunc⟩
 | 142 => some ⟨.func #[23, 111, 3] #[23] false, 1, 8, .nilFunc⟩
 | 143 => some ⟨.func #[23, 3] #[123] false, 1, 8, .nilFunc⟩
 | 144 => some ⟨.func #[22, 92] #[] false, 1, 8, .nilFunc⟩
 | 146 => some ⟨.func #[111, 111, 111] #[111, 111] false, 1, 8, .nilFunc⟩
 | 148 => some ⟨.func #[23] #[123, 4] false, 1, 8, .nilFunc⟩
 | 149 => some ⟨.func #[123, 123] #[123] false, 1, 8, .nilFunc⟩
 | 151 => some ⟨.func #[23, 111] #[23, 111] false, 1, 8, .nilFunc⟩
 | 153 => some ⟨.func #[23, 23] #[23, 23] false, 1, 8, .nilFunc⟩
 | 154 => some ⟨.func #[22, 3] #[27] false, 1, 8, .nilFunc⟩
 | 155 => some ⟨.func #[22, 49] #[134] false, 1, 8, .nilFunc⟩
 | 156 => some ⟨.func #[22] #[134] false, 1, 8, .nilFunc⟩
 | 157 => some ⟨.func #[134, 27] #[3] false, 1, 8, .nilFunc⟩
 | 158 => some ⟨.func #[22, 27, 3] #[22] false, 1, 8, .nilFunc⟩
 | 159 => some ⟨.func #[23, 111] #[23] false, 1, 8, .nilFunc⟩
 | 160 => some ⟨.func #[23, 3] #[111] false, 1, 8, .nilFunc⟩
 | 161 => some ⟨.func #[22, 3, 3, 3, 92] #[] false, 1, 8, .nilFunc⟩
 | 162 => some ⟨.func #[129] #[3] false, 1, 8, .nilFunc⟩
 | 163 => some ⟨.func #[111] #[3] false, 1, 8, .nilFunc⟩
 | 164 => some ⟨.func #[23, 3] #[23] false, 1, 8, .nilFunc⟩
 | 165 => some ⟨.func #[111, 111, 111, 111, 111] #[123] false, 1, 8, .nilFunc⟩
 | 166 => some ⟨.func #[23, 23, 123] #[4] false, 1, 8, .nilFunc⟩
 | 167 => some ⟨.func #[23, 23] #[] false, 1, 8, .nilFunc⟩
 | 168 => some ⟨.func #[22, 3, 3, 92] #[] false, 1, 8, .nilFunc⟩
 | 169 => some ⟨.int .i64, 1, 8, .int .i64 0⟩
 | 171 => some ⟨.func #[22, 3, 3, 92] #[3, 169] false, 1, 8, .nilFunc⟩
 | 172 => some ⟨.func #[22, 3, 3, 92] #[4] false, 1, 8, .nilFunc⟩
 | 173 => some ⟨.func #[22, 3, 3, 3, 92] #[3] false, 1, 8, .nilFunc⟩
 | 175 => some ⟨.func #[22, 3, 3, 3, 92] #[3, 4] false, 1, 8, .nilFunc⟩
 | 176 => some ⟨.func #[123] #[3] false, 1, 8, .nilFunc⟩
 | 179 => some ⟨.int .u64, 1, 8, .int .u64 0⟩
 | 180 => some ⟨.func #[3] #[129] false, 1, 8, .nilFunc⟩
 | 181 => some ⟨.func #[] #[123] false, 1, 8, .nilFunc⟩
 | 182 => some ⟨.func #[22, 3, 183, 92] #[3] false, 1, 8, .nilFunc⟩
 | 183 => some ⟨.pointer 3, 1, 8, .pointer none⟩
 | 184 => some ⟨.func #[22, 3, 3, 3, 183, 92] #[3] false, 1, 8, .nilFunc⟩
 | 185 => some ⟨.pointer 179, 1, 8, .pointer none⟩
 | 187 => some ⟨.func #[22, 3, 3, 183, 92] #[3, 3] false, 1, 8, .nilFunc⟩
 | 188 => some ⟨.pointer 205, 1, 8, .pointer none⟩
 | 189 => some ⟨.func #[] #[9] false, 1, 8, .nilFunc⟩
 | 192 => some ⟨.array 0 16, 0, 0, .agg #[]⟩
 | 195 => some ⟨.func #[] #[3] false, 1, 8, .nilFunc⟩
 | 196 => some ⟨.int .u8, 1, 1, .int .u8 0⟩
 | 197 => some ⟨.int .u8, 1, 1, .int .u8 0⟩
 | 198 => some ⟨.func #[206, 206] #[4] false, 1, 8, .nilFunc⟩
 | 199 => some ⟨.pointer 5, 1, 8, .pointer none⟩
 | 200 => some ⟨.int .i32, 1, 4, .int .i32 0⟩
 | 201 => some ⟨.int .i32, 1, 4, .int .i32 0⟩
 | 204 => some ⟨.struct #[⟨ "s", 9, 0, false, "", "errors", 0⟩], 1, 16, .agg #[.string .empty]⟩
 | 205 => some ⟨.struct #[⟨ "s", 9, 0, false, "", "errors", 0⟩], 1, 16, .agg #[.string .empty]⟩
 | _ => none
theorem ty1 : tyOf Tryz.prog 1 = some ⟨.func #[] #[] false, 1, 8, .nilFunc⟩ := by kernel_rfl
theorem ty2 : tyOf Tryz.prog 2 = some ⟨.int .i64, 1, 8, .int .i64 0⟩ := by kernel_rfl
theorem ty3 : tyOf Tryz.prog 3 = some ⟨.int .i64, 1, 8, .int .i64 0⟩ := by kernel_rfl
theorem ty4 : tyOf Tryz.prog 4 = some ⟨.bool, 1, 1, .bool false⟩ := by kernel_rfl
theorem ty5 : tyOf Tryz.prog 5 = some ⟨.int .u8, 1, 1, .int .u8 0⟩ := by kernel_rfl
theorem ty6 : tyOf Tryz.prog 6 = some ⟨.int .u8, 1, 1, .int .u8 0⟩ := by kernel_rfl
theorem ty9 : tyOf Tryz.prog 9 = some ⟨.string, 1, 16, .string .empty⟩ := by kernel_rfl
theorem ty10 : tyOf Tryz.prog 10 = some ⟨.string, 1, 16, .string .empty⟩ := by kernel_rfl
theorem ty11 : tyOf Tryz.prog 11 = some ⟨.string, 1, 16, .string .empty⟩ := by kernel_rfl
theorem ty12 : tyOf Tryz.prog 12 = some ⟨.int .u64, 1, 8, .int .u64 0⟩ := by kernel_rfl
theorem ty15 : tyOf Tryz.prog 15 = some ⟨.pointer 191, 1, 8, .pointer none⟩ := by kernel_rfl
theorem ty16 : tyOf Tryz.prog 16 = some ⟨.pointer 194, 1, 8, .pointer none⟩ := by kernel_rfl
theorem ty17 : tyOf Tryz.prog 17 = some ⟨.pointer 203, 1, 8, .pointer none⟩ := by kernel_rfl
theorem ty21 : tyOf Tryz.prog 21 = some ⟨.int .i32, 1, 4, .int .i32 0⟩ := by kernel_rfl
theorem ty22 : tyOf Tryz.prog 22 = some ⟨.slice 27, 1, 24, .slice none 0 0⟩ := by kernel_rfl
theorem ty23 : tyOf Tryz.prog 23 = some ⟨.slice 111, 1, 24, .slice none 0 0⟩ := by kernel_rfl
theorem ty24 : tyOf Tryz.prog 24 = some ⟨.struct #[⟨ "Neg", 4, 0, false, "", "", 0⟩, ⟨ "Mag", 23, 1, false, "", "", 8⟩], 2, 32, .agg #[.bool false, .slice none 0 0]⟩ := by kernel_rfl
theorem ty25 : tyOf Tryz.prog 25 = some ⟨.struct #[⟨ "Neg", 4, 0, false, "", "", 0⟩, ⟨ "Mag", 23, 1, false, "", "", 8⟩], 2, 32, .agg #[.bool false, .slice none 0 0]⟩ := by kernel_rfl
theorem ty26 : tyOf Tryz.prog 26 = some ⟨.struct #[⟨ "Num", 25, 0, false, "", "", 0⟩, ⟨ "Den", 23, 2, false, "", "", 32⟩], 3, 56, .agg #[.bool false, .slice none 0 0, .slice none 0 0]⟩ := by kernel_rfl
theorem ty27 : tyOf Tryz.prog 27 = some ⟨.struct #[⟨ "Num", 25, 0, false, "", "", 0⟩, ⟨ "Den", 23, 2, false, "", "", 32⟩], 3, 56, .agg #[.bool false, .slice none 0 0, .slice none 0 0]⟩ := by kernel_rfl
theorem ty28 : tyOf Tryz.prog 28 = some ⟨.func #[22] #[4] false, 1, 8, .nilFunc⟩ := by kernel_rfl
theorem ty29 : tyOf Tryz.prog 29 = some ⟨.func #[27] #[4] false, 1, 8, .nilFunc⟩ := by kernel_rfl
theorem ty30 : tyOf Tryz.prog 30 = some ⟨.func #[] #[4] false, 1, 8, .nilFunc⟩ := by kernel_rfl
theorem ty31 : tyOf Tryz.prog 31 = some ⟨.struct #[⟨ "Lo", 27, 0, false, "", "", 0⟩, ⟨ "Hi", 27, 3, false, "", "", 56⟩], 6, 112, .agg #[.bool false, .slice none 0 0, .slice none 0 0, .bool false, .slice none 0 0, .slice none 0 0]⟩ := by kernel_rfl
theorem ty32 : tyOf Tryz.prog 32 = some ⟨.struct #[⟨ "Lo", 27, 0, false, "", "", 0⟩, ⟨ "Hi", 27, 3, false, "", "", 56⟩], 6, 112, .agg #[.bool false, .slice none 0 0, .slice none 0 0, .bool false, .slice none 0 0, .slice none 0 0]⟩ := by kernel_rfl
theorem ty33 : tyOf Tryz.prog 33 = some ⟨.int .i64, 1, 8, .int .i64 0⟩ := by kernel_rfl
theorem ty35 : tyOf Tryz.prog 35 = some ⟨.func #[22, 27] #[32, 33] false, 1, 8, .nilFunc⟩ := by kernel_rfl
theorem ty36 : tyOf Tryz.prog 36 = some ⟨.func #[32, 32] #[4] false, 1, 8, .nilFunc⟩ := by kernel_rfl
theorem ty37 : tyOf Tryz.prog 37 = some ⟨.func #[22, 27] #[4] false, 1, 8, .nilFunc⟩ := by kernel_rfl
theorem ty38 : tyOf Tryz.prog 38 = some ⟨.slice 3, 1, 24, .slice none 0 0⟩ := by kernel_rfl
theorem ty39 : tyOf Tryz.prog 39 = some ⟨.func #[38, 3] #[22] false, 1, 8, .nilFunc⟩ := by kernel_rfl
theorem ty40 : tyOf Tryz.prog 40 = some ⟨.func #[3] #[27] false, 1, 8, .nilFunc⟩ := by kernel_rfl
theorem ty41 : tyOf Tryz.prog 41 = some ⟨.func #[3, 3] #[3] false, 1, 8, .nilFunc⟩ := by kernel_rfl
theorem ty42 : tyOf Tryz.prog 42 = some ⟨.slice 32, 1, 24, .slice none 0 0⟩ := by kernel_rfl
theorem ty43 : tyOf Tryz.prog 43 = some ⟨.struct #[⟨ "Points", 42, 0, false, "", "", 0⟩, ⟨ "Flat", 42, 1, false, "", "", 24⟩], 2, 48, .agg #[.slice none 0 0, .slice none 0 0]⟩ := by kernel_rfl
theorem ty44 : tyOf Tryz.prog 44 = some ⟨.struct #[⟨ "Points", 42, 0, false, "", "", 0⟩, ⟨ "Flat", 42, 1, false, "", "", 24⟩], 2, 48, .agg #[.slice none 0 0, .slice none 0 0]⟩ := by kernel_rfl
theorem ty46 : tyOf Tryz.prog 46 = some ⟨.func #[22, 27, 3] #[44, 33] false, 1, 8, .nilFunc⟩ := by kernel_rfl
theorem ty47 : tyOf Tryz.prog 47 = some ⟨.func #[22, 27, 3, 44] #[4] false, 1, 8, .nilFunc⟩ := by kernel_rfl
theorem ty48 : tyOf Tryz.prog 48 = some ⟨.func #[38, 3, 3] #[4] false, 1, 8, .nilFunc⟩ := by kernel_rfl
theorem ty49 : tyOf Tryz.prog 49 = some ⟨.func #[22] #[22] false, 1, 8, .nilFunc⟩ := by kernel_rfl
theorem ty51 : tyOf Tryz.prog 51 = some ⟨.func #[32, 32] #[32, 4] false, 1, 8, .nilFunc⟩ := by kernel_rfl
theorem ty52 : tyOf Tryz.prog 52 = some ⟨.func #[38, 3] #[4] false, 1, 8, .nilFunc⟩ := by kernel_rfl
theorem ty53 : tyOf Tryz.prog 53 = some ⟨.func #[27, 27] #[27] false, 1, 8, .nilFunc⟩ := by kernel_rfl
theorem ty54 : tyOf Tryz.prog 54 = some ⟨.func #[27, 27] #[4] false, 1, 8, .nilFunc⟩ := by kernel_rfl
theorem ty55 : tyOf Tryz.prog 55 = some ⟨.func #[38, 3, 3, 3] #[4] false, 1, 8, .nilFunc⟩ := by kernel_rfl
theorem ty57 : tyOf Tryz.prog 57 = some ⟨.func #[22] #[27, 27, 33] false, 1, 8, .nilFunc⟩ := by kernel_rfl
theorem ty59 : tyOf Tryz.prog 59 = some ⟨.func #[22, 27, 27] #[27, 33] false, 1, 8, .nilFunc⟩ := by kernel_rfl
theorem ty60 : tyOf Tryz.prog 60 = some ⟨.func #[27] #[3] false, 1, 8, .nilFunc⟩ := by kernel_rfl
theorem ty61 : tyOf Tryz.prog 61 = some ⟨.func #[38] #[22] true, 1, 8, .nilFunc⟩ := by kernel_rfl
theorem ty62 : tyOf Tryz.prog 62 = some ⟨.func #[22, 27] #[33] false, 1, 8, .nilFunc⟩ := by kernel_rfl
theorem ty63 : tyOf Tryz.prog 63 = some ⟨.func #[22, 27] #[22] false, 1, 8, .nilFunc⟩ := by kernel_rfl
theorem ty64 : tyOf Tryz.prog 64 = some ⟨.func #[22, 27, 27] #[27] false, 1, 8, .nilFunc⟩ := by kernel_rfl
theorem ty65 : tyOf Tryz.prog 65 = some ⟨.func #[22, 29] #[3] false, 1, 8, .nilFunc⟩ := by kernel_rfl
theorem ty66 : tyOf Tryz.prog 66 = some ⟨.func #[32, 32] #[32] false, 1, 8, .nilFunc⟩ := by kernel_rfl
theorem ty67 : tyOf Tryz.prog 67 = some ⟨.func #[27, 27] #[27, 33] false, 1, 8, .nilFunc⟩ := by kernel_rfl
theorem ty68 : tyOf Tryz.prog 68 = some ⟨.func #[22, 27, 3] #[33] false, 1, 8, .nilFunc⟩ := by kernel_rfl
theorem ty69 : tyOf Tryz.prog 69 = some ⟨.func #[22, 27, 27, 27] #[27] false, 1, 8, .nilFunc⟩ := by kernel_rfl
theorem ty70 : tyOf Tryz.prog 70 = some ⟨.func #[27] #[27] false, 1, 8, .nilFunc⟩ := by kernel_rfl
theorem ty71 : tyOf Tryz.prog 71 = some ⟨.func #[3, 3] #[27] false, 1, 8, .nilFunc⟩ := by kernel_rfl
theorem ty72 : tyOf Tryz.prog 72 = some ⟨.func #[22, 27] #[42] false, 1, 8, .nilFunc⟩ := by kernel_rfl
theorem ty73 : tyOf Tryz.prog 73 = some ⟨.func #[22, 27, 27] #[22] false, 1, 8, .nilFunc⟩ := by kernel_rfl
theorem ty74 : tyOf Tryz.prog 74 = some ⟨.func #[32] #[27] false, 1, 8, .nilFunc⟩ := by kernel_rfl
theorem ty75 : tyOf Tryz.prog 75 = some ⟨.func #[22, 27, 27, 27] #[42] false, 1, 8, .nilFunc⟩ := by kernel_rfl
theorem ty76 : tyOf Tryz.prog 76 = some ⟨.func #[42, 78] #[4] false, 1, 8, .nilFunc⟩ := by kernel_rfl
theorem ty77 : tyOf Tryz.prog 77 = some ⟨.func #[32, 27] #[4] false, 1, 8, .nilFunc⟩ := by kernel_rfl
theorem ty78 : tyOf Tryz.prog 78 = some ⟨.func #[32] #[4] false, 1, 8, .nilFunc⟩ := by kernel_rfl
theorem ty79 : tyOf Tryz.prog 79 = some ⟨.func #[22, 27] #[27] false, 1, 8, .nilFunc⟩ := by kernel_rfl
theorem ty80 : tyOf Tryz.prog 80 = some ⟨.func #[22, 27] #[3] false, 1, 8, .nilFunc⟩ := by kernel_rfl
theorem ty81 : tyOf Tryz.prog 81 = some ⟨.func #[22, 27, 32] #[3] false, 1, 8, .nilFunc⟩ := by kernel_rfl
theorem ty82 : tyOf Tryz.prog 82 = some ⟨.func #[32] #[32] false, 1, 8, .nilFunc⟩ := by kernel_rfl
theorem ty83 : tyOf Tryz.prog 83 = some ⟨.func #[25, 25] #[27] false, 1, 8, .nilFunc⟩ := by kernel_rfl
theorem ty84 : tyOf Tryz.prog 84 = some ⟨.func #[25, 25] #[25] false, 1, 8, .nilFunc⟩ := by kernel_rfl
theorem ty85 : tyOf Tryz.prog 85 = some ⟨.func #[27] #[25] false, 1, 8, .nilFunc⟩ := by kernel_rfl
theorem ty86 : tyOf Tryz.prog 86 = some ⟨.func #[25, 25] #[4] false, 1, 8, .nilFunc⟩ := by kernel_rfl
theorem ty87 : tyOf Tryz.prog 87 = some ⟨.func #[23, 23] #[4] false, 1, 8, .nilFunc⟩ := by kernel_rfl
theorem ty88 : tyOf Tryz.prog 88 = some ⟨.func #[3] #[25] false, 1, 8, .nilFunc⟩ := by kernel_rfl
theorem ty89 : tyOf Tryz.prog 89 = some ⟨.func #[22, 3] #[33] false, 1, 8, .nilFunc⟩ := by kernel_rfl
theorem ty91 : tyOf Tryz.prog 91 = some ⟨.func #[22] #[27, 27] false, 1, 8, .nilFunc⟩ := by kernel_rfl
theorem ty92 : tyOf Tryz.prog 92 = some ⟨.func #[27, 27] #[3] false, 1, 8, .nilFunc⟩ := by kernel_rfl
theorem ty93 : tyOf Tryz.prog 93 = some ⟨.func #[25] #[3] false, 1, 8, .nilFunc⟩ := by kernel_rfl
theorem ty94 : tyOf Tryz.prog 94 = some ⟨.func #[27, 27, 27] #[4] false, 1, 8, .nilFunc⟩ := by kernel_rfl
theorem ty95 : tyOf Tryz.prog 95 = some ⟨.func #[27, 22] #[32] true, 1, 8, .nilFunc⟩ := by kernel_rfl
theorem ty96 : tyOf Tryz.prog 96 = some ⟨.func #[25, 25] #[27, 33] false, 1, 8, .nilFunc⟩ := by kernel_rfl
theorem ty97 : tyOf Tryz.prog 97 = some ⟨.func #[25, 23] #[25] false, 1, 8, .nilFunc⟩ := by kernel_rfl
theorem ty98 : tyOf Tryz.prog 98 = some ⟨.func #[27] #[23] false, 1, 8, .nilFunc⟩ := by kernel_rfl
theorem ty99 : tyOf Tryz.prog 99 = some ⟨.func #[25, 23] #[27] false, 1, 8, .nilFunc⟩ := by kernel_rfl
theorem ty100 : tyOf Tryz.prog 100 = some ⟨.func #[23, 23] #[23] false, 1, 8, .nilFunc⟩ := by kernel_rfl
theorem ty101 : tyOf Tryz.prog 101 = some ⟨.func #[27, 27] #[32, 33] false, 1, 8, .nilFunc⟩ := by kernel_rfl
theorem ty102 : tyOf Tryz.prog 102 = some ⟨.func #[22] #[22] true, 1, 8, .nilFunc⟩ := by kernel_rfl
theorem ty103 : tyOf Tryz.prog 103 = some ⟨.func #[22, 22] #[22] false, 1, 8, .nilFunc⟩ := by kernel_rfl
theorem ty105 : tyOf Tryz.prog 105 = some ⟨.func #[22, 27, 27] #[42, 33] false, 1, 8, .nilFunc⟩ := by kernel_rfl
theorem ty106 : tyOf Tryz.prog 106 = some ⟨.func #[22, 32, 78] #[32] false, 1, 8, .nilFunc⟩ := by kernel_rfl
theorem ty107 : tyOf Tryz.prog 107 = some ⟨.func #[42, 78] #[3] false, 1, 8, .nilFunc⟩ := by kernel_rfl
theorem ty108 : tyOf Tryz.prog 108 = some ⟨.func #[140] #[] false, 1, 8, .nilFunc⟩ := by kernel_rfl
theorem ty109 : tyOf Tryz.prog 109 = some ⟨.func #[140] #[] false, 1, 8, .nilFunc⟩ := by kernel_rfl
theorem ty110 : tyOf Tryz.prog 110 = some ⟨.func #[22] #[109] false, 1, 8, .nilFunc⟩ := by kernel_rfl
theorem ty111 : tyOf Tryz.prog 111 = some ⟨.int .u32, 1, 4, .int .u32 0⟩ := by kernel_rfl
theorem ty112 : tyOf Tryz.prog 112 = some ⟨.func #[22, 32, 27, 27] #[3] false, 1, 8, .nilFunc⟩ := by kernel_rfl
theorem ty113 : tyOf Tryz.prog 113 = some ⟨.func #[25] #[25] false, 1, 8, .nilFunc⟩ := by kernel_rfl
theorem ty114 : tyOf Tryz.prog 114 = some ⟨.func #[23] #[23] false, 1, 8, .nilFunc⟩ := by kernel_rfl
theorem ty115 : tyOf Tryz.prog 115 = some ⟨.func #[25, 25] #[23] false, 1, 8, .nilFunc⟩ := by kernel_rfl
theorem ty117 : tyOf Tryz.prog 117 = some ⟨.func #[25, 25] #[25, 25, 4] false, 1, 8, .nilFunc⟩ := by kernel_rfl
theorem ty118 : tyOf Tryz.prog 118 = some ⟨.func #[23] #[4] false, 1, 8, .nilFunc⟩ := by kernel_rfl
theorem ty119 : tyOf Tryz.prog 119 = some ⟨.func #[4, 23] #[25] false, 1, 8, .nilFunc⟩ := by kernel_rfl
theorem ty121 : tyOf Tryz.prog 121 = some ⟨.func #[23, 23] #[23, 4] false, 1, 8, .nilFunc⟩ := by kernel_rfl
theorem ty122 : tyOf Tryz.prog 122 = some ⟨.func #[123] #[23] false, 1, 8, .nilFunc⟩ := by kernel_rfl
theorem ty123 : tyOf Tryz.prog 123 = some ⟨.int .u64, 1, 8, .int .u64 0⟩ := by kernel_rfl
theorem ty124 : tyOf Tryz.prog 124 = some ⟨.func #[22, 54] #[22] false, 1, 8, .nilFunc⟩ := by kernel_rfl
theorem ty125 : tyOf Tryz.prog 125 = some ⟨.func #[] #[23] false, 1, 8, .nilFunc⟩ := by kernel_rfl
theorem ty127 : tyOf Tryz.prog 127 = some ⟨.func #[23, 23] #[23, 23, 4] false, 1, 8, .nilFunc⟩ := by kernel_rfl
theorem ty128 : tyOf Tryz.prog 128 = some ⟨.func #[23, 23] #[3] false, 1, 8, .nilFunc⟩ := by kernel_rfl
theorem ty129 : tyOf Tryz.prog 129 = some ⟨.int .u64, 1, 8, .int .u64 0⟩ := by kernel_rfl
theorem ty130 : tyOf Tryz.prog 130 = some ⟨.func #[22, 22, 53] #[22] false, 1, 8, .nilFunc⟩ := by kernel_rfl
theorem ty132 : tyOf Tryz.prog 132 = some ⟨.func #[22, 22] #[22, 22, 33] false, 1, 8, .nilFunc⟩ := by kernel_rfl
theorem ty133 : tyOf Tryz.prog 133 = some ⟨.func #[22] #[3] false, 1, 8, .nilFunc⟩ := by kernel_rfl
theorem ty134 : tyOf Tryz.prog 134 = some ⟨.slice 22, 1, 24, .slice none 0 0⟩ := by kernel_rfl
theorem ty135 : tyOf Tryz.prog 135 = some ⟨.slice 22, 1, 24, .slice none 0 0⟩ := by kernel_rfl
theorem ty136 : tyOf Tryz.prog 136 = some ⟨.func #[22] #[135] false, 1, 8, .nilFunc⟩ := by kernel_rfl
theorem ty137 : tyOf Tryz.prog 137 = some ⟨.func #[32] #[42] false, 1, 8, .nilFunc⟩ := by kernel_rfl
theorem ty138 : tyOf Tryz.prog 138 = some ⟨.func #[22, 27, 27] #[3] false, 1, 8, .nilFunc⟩ := by kernel_rfl
theorem ty139 : tyOf Tryz.prog 139 = some ⟨.func #[25, 25] #[3] false, 1, 8, .nilFunc⟩ := by kernel_rfl
theorem ty140 : tyOf Tryz.prog 140 = some ⟨.func #[3, 27] #[4] false, 1, 8, .nilFunc⟩ := by kernel_rfl
theorem ty141 : tyOf Tryz.prog 141 = some ⟨.func #[25] #[4] false, 1, 8, .nilFunc⟩ := by kernel_rfl
theorem ty142 : tyOf Tryz.prog 142 = some ⟨.func #[23, 111, 3] #[23] false, 1, 8, .nilFunc⟩ := by kernel_rfl
theorem ty143 : tyOf Tryz.prog 143 = some ⟨.func #[23, 3] #[123] false, 1, 8, .nilFunc⟩ := by kernel_rfl
theorem ty144 : tyOf Tryz.prog 144 = some ⟨.func #[22, 92] #[] false, 1, 8, .nilFunc⟩ := by kernel_rfl
theorem ty146 : tyOf Tryz.prog 146 = some ⟨.func #[111, 111, 111] #[111, 111] false, 1, 8, .nilFunc⟩ := by kernel_rfl
theorem ty148 : tyOf Tryz.prog 148 = some ⟨.func #[23] #[123, 4] false, 1, 8, .nilFunc⟩ := by kernel_rfl
theorem ty149 : tyOf Tryz.prog 149 = some ⟨.func #[123, 123] #[123] false, 1, 8, .nilFunc⟩ := by kernel_rfl
theorem ty151 : tyOf Tryz.prog 151 = some ⟨.func #[23, 111] #[23, 111] false, 1, 8, .nilFunc⟩ := by kernel_rfl
theorem ty153 : tyOf Tryz.prog 153 = some ⟨.func #[23, 23] #[23, 23] false, 1, 8, .nilFunc⟩ := by kernel_rfl
theorem ty154 : tyOf Tryz.prog 154 = some ⟨.func #[22, 3] #[27] false, 1, 8, .nilFunc⟩ := by kernel_rfl
theorem ty155 : tyOf Tryz.prog 155 = some ⟨.func #[22, 49] #[134] false, 1, 8, .nilFunc⟩ := by kernel_rfl
theorem ty156 : tyOf Tryz.prog 156 = some ⟨.func #[22] #[134] false, 1, 8, .nilFunc⟩ := by kernel_rfl
theorem ty157 : tyOf Tryz.prog 157 = some ⟨.func #[134, 27] #[3] false, 1, 8, .nilFunc⟩ := by kernel_rfl
theorem ty158 : tyOf Tryz.prog 158 = some ⟨.func #[22, 27, 3] #[22] false, 1, 8, .nilFunc⟩ := by kernel_rfl
theorem ty159 : tyOf Tryz.prog 159 = some ⟨.func #[23, 111] #[23] false, 1, 8, .nilFunc⟩ := by kernel_rfl
theorem ty160 : tyOf Tryz.prog 160 = some ⟨.func #[23, 3] #[111] false, 1, 8, .nilFunc⟩ := by kernel_rfl
theorem ty161 : tyOf Tryz.prog 161 = some ⟨.func #[22, 3, 3, 3, 92] #[] false, 1, 8, .nilFunc⟩ := by kernel_rfl
theorem ty162 : tyOf Tryz.prog 162 = some ⟨.func #[129] #[3] false, 1, 8, .nilFunc⟩ := by kernel_rfl
theorem ty163 : tyOf Tryz.prog 163 = some ⟨.func #[111] #[3] false, 1, 8, .nilFunc⟩ := by kernel_rfl
theorem ty164 : tyOf Tryz.prog 164 = some ⟨.func #[23, 3] #[23] false, 1, 8, .nilFunc⟩ := by kernel_rfl
theorem ty165 : tyOf Tryz.prog 165 = some ⟨.func #[111, 111, 111, 111, 111] #[123] false, 1, 8, .nilFunc⟩ := by kernel_rfl
theorem ty166 : tyOf Tryz.prog 166 = some ⟨.func #[23, 23, 123] #[4] false, 1, 8, .nilFunc⟩ := by kernel_rfl
theorem ty167 : tyOf Tryz.prog 167 = some ⟨.func #[23, 23] #[] false, 1, 8, .nilFunc⟩ := by kernel_rfl
theorem ty168 : tyOf Tryz.prog 168 = some ⟨.func #[22, 3, 3, 92] #[] false, 1, 8, .nilFunc⟩ := by kernel_rfl
theorem ty169 : tyOf Tryz.prog 169 = some ⟨.int .i64, 1, 8, .int .i64 0⟩ := by kernel_rfl
theorem ty171 : tyOf Tryz.prog 171 = some ⟨.func #[22, 3, 3, 92] #[3, 169] false, 1, 8, .nilFunc⟩ := by kernel_rfl
theorem ty172 : tyOf Tryz.prog 172 = some ⟨.func #[22, 3, 3, 92] #[4] false, 1, 8, .nilFunc⟩ := by kernel_rfl
theorem ty173 : tyOf Tryz.prog 173 = some ⟨.func #[22, 3, 3, 3, 92] #[3] false, 1, 8, .nilFunc⟩ := by kernel_rfl
theorem ty175 : tyOf Tryz.prog 175 = some ⟨.func #[22, 3, 3, 3, 92] #[3, 4] false, 1, 8, .nilFunc⟩ := by kernel_rfl
theorem ty176 : tyOf Tryz.prog 176 = some ⟨.func #[123] #[3] false, 1, 8, .nilFunc⟩ := by kernel_rfl
theorem ty179 : tyOf Tryz.prog 179 = some ⟨.int .u64, 1, 8, .int .u64 0⟩ := by kernel_rfl
theorem ty180 : tyOf Tryz.prog 180 = some ⟨.func #[3] #[129] false, 1, 8, .nilFunc⟩ := by kernel_rfl
theorem ty181 : tyOf Tryz.prog 181 = some ⟨.func #[] #[123] false, 1, 8, .nilFunc⟩ := by kernel_rfl
theorem ty182 : tyOf Tryz.prog 182 = some ⟨.func #[22, 3, 183, 92] #[3] false, 1, 8, .nilFunc⟩ := by kernel_rfl
theorem ty183 : tyOf Tryz.prog 183 = some ⟨.pointer 3, 1, 8, .pointer none⟩ := by kernel_rfl
theorem ty184 : tyOf Tryz.prog 184 = some ⟨.func #[22, 3, 3, 3, 183, 92] #[3] false, 1, 8, .nilFunc⟩ := by kernel_rfl
theorem ty185 : tyOf Tryz.prog 185 = some ⟨.pointer 179, 1, 8, .pointer none⟩ := by kernel_rfl
theorem ty187 : tyOf Tryz.prog 187 = some ⟨.func #[22, 3, 3, 183, 92] #[3, 3] false, 1, 8, .nilFunc⟩ := by kernel_rfl
theorem ty188 : tyOf Tryz.prog 188 = some ⟨.pointer 205, 1, 8, .pointer none⟩ := by kernel_rfl
theorem ty189 : tyOf Tryz.prog 189 = some ⟨.func #[] #[9] false, 1, 8, .nilFunc⟩ := by kernel_rfl
theorem ty192 : tyOf Tryz.prog 192 = some ⟨.array 0 16, 0, 0, .agg #[]⟩ := by kernel_rfl
theorem ty195 : tyOf Tryz.prog 195 = some ⟨.func #[] #[3] false, 1, 8, .nilFunc⟩ := by kernel_rfl
theorem ty196 : tyOf Tryz.prog 196 = some ⟨.int .u8, 1, 1, .int .u8 0⟩ := by kernel_rfl
theorem ty197 : tyOf Tryz.prog 197 = some ⟨.int .u8, 1, 1, .int .u8 0⟩ := by kernel_rfl
theorem ty198 : tyOf Tryz.prog 198 = some ⟨.func #[206, 206] #[4] false, 1, 8, .nilFunc⟩ := by kernel_rfl
theorem ty199 : tyOf Tryz.prog 199 = some ⟨.pointer 5, 1, 8, .pointer none⟩ := by kernel_rfl
theorem ty200 : tyOf Tryz.prog 200 = some ⟨.int .i32, 1, 4, .int .i32 0⟩ := by kernel_rfl
theorem ty201 : tyOf Tryz.prog 201 = some ⟨.int .i32, 1, 4, .int .i32 0⟩ := by kernel_rfl
theorem ty204 : tyOf Tryz.prog 204 = some ⟨.struct #[⟨ "s", 9, 0, false, "", "errors", 0⟩], 1, 16, .agg #[.string .empty]⟩ := by kernel_rfl
theorem ty205 : tyOf Tryz.prog 205 = some ⟨.struct #[⟨ "s", 9, 0, false, "", "errors", 0⟩], 1, 16, .agg #[.string .empty]⟩ := by kernel_rfl
theorem tab : TabOk Tryz.prog T := by
 intro t d h
 unfold T at h
 split at h
 ·cases h; exact TyOk.of ty1
 ·cases h; exact TyOk.of ty2
 ·cases h; exact TyOk.of ty3
 ·cases h; exact TyOk.of ty4
 ·cases h; exact TyOk.of ty5
 ·cases h; exact TyOk.of ty6
 ·cases h; exact TyOk.of ty9
 ·cases h; exact TyOk.of ty10
 ·cases h; exact TyOk.of ty11
 ·cases h; exact TyOk.of ty12
 ·cases h; exact TyOk.of ty15
 ·cases h; exact TyOk.of ty16
 ·cases h; exact TyOk.of ty17
 ·cases h; exact TyOk.of ty21
 ·cases h; exact TyOk.of ty22
 ·cases h; exact TyOk.of ty23
 ·cases h; exact TyOk.of ty24
 ·cases h; exact TyOk.of ty25
 ·cases h; exact TyOk.of ty26
 ·cases h; exact TyOk.of ty27
 ·cases h; exact TyOk.of ty28
 ·cases h; exact TyOk.of ty29
 ·cases h; exact TyOk.of ty30
 ·cases h; exact TyOk.of ty31
 ·cases h; exact TyOk.of ty32
 ·cases h; exact TyOk.of ty33
 ·cases h; exact TyOk.of ty35
 ·cases h; exact TyOk.of ty36
 ·cases h; exact TyOk.of ty37
 ·cases h; exact TyOk.of ty38
 ·cases h; exact TyOk.of ty39
 ·cases h; exact TyOk.of ty40
 ·cases h; exact TyOk.of ty41
 ·cases h; exact TyOk.of ty42
 ·cases h; exact TyOk.of ty43
 ·cases h; exact TyOk.of ty44
 ·cases h; exact TyOk.of ty46
 ·cases h; exact TyOk.of ty47
 ·cases h; exact TyOk.of ty48
 ·cases h; exact TyOk.of ty49
 ·cases h; exact TyOk.of ty51
 ·cases h; exact TyOk.of ty52
 ·cases h; exact TyOk.of ty53
 ·cases h; exact TyOk.of ty54
 ·cases h; exact TyOk.of ty55
 ·cases h; exact TyOk.of ty57
 ·cases h; exact TyOk.of ty59
 ·cases h; exact TyOk.of ty60
 ·cases h; exact TyOk.of ty61
 ·cases h; exact TyOk.of ty62
 ·cases h; exact TyOk.of ty63
 ·cases h; exact TyOk.of ty64
 ·cases h; exact TyOk.of ty65
 ·cases h; exact TyOk.of ty66
 ·cases h; exact TyOk.of ty67
 ·cases h; exact TyOk.of ty68
 ·cases h; exact TyOk.of ty69
 ·cases h; exact TyOk.of ty70
 ·cases h; exact TyOk.of ty71
 ·cases h; exact TyOk.of ty72
 ·cases h; exact TyOk.of ty73
 ·cases h; exact TyOk.of ty74
 ·cases h; exact TyOk.of ty75
 ·cases h; exact TyOk.of ty76
 ·cases h; exact TyOk.of ty77
 ·cases h; exact TyOk.of ty78
 ·cases h; exact TyOk.of ty79
 ·cases h; exact TyOk.of ty80
 ·cases h; exact TyOk.of ty81
 ·cases h; exact TyOk.of ty82
 ·cases h; exact TyOk.of ty83
 ·cases h; exact TyOk.of ty84
 ·cases h; exact TyOk.of ty85
 ·cases h; exact TyOk.of ty86
 ·cases h; exact TyOk.of ty87
 ·cases h; exact TyOk.of ty88
 ·cases h; exact TyOk.of ty89
 ·cases h; exact TyOk.of ty91
 ·cases h; exact TyOk.of ty92
 ·cases h; exact TyOk.of ty93
 ·cases h; exact TyOk.of ty94
 ·cases h; exact TyOk.of ty95
 ·cases h; exact TyOk.of ty96
 ·cases h; exact TyOk.of ty97
 ·cases h; exact TyOk.of ty98
 ·cases h; exact TyOk.of ty99
 ·cases h; exact TyOk.of ty100
 ·cases h; exact TyOk.of ty101
 ·cases h; exact TyOk.of ty102
 ·cases h; exact TyOk.of ty103
 ·cases h; exact TyOk.of ty105
 ·cases h; exact TyOk.of ty106
 ·cases h; exact TyOk.of ty107
 ·cases h; exact TyOk.of ty108
 ·cases h; exact TyOk.of ty109
 ·cases h; exact TyOk.of ty110
 ·cases h; exact TyOk.of ty111
 ·cases h; exact TyOk.of ty112
 ·cases h; exact TyOk.of ty113
 ·cases h; exact TyOk.of ty114
 ·cases h; exact TyOk.of ty115
 ·cases h; exact TyOk.of ty117
 ·cases h; exact TyOk.of ty118
 ·cases h; exact TyOk.of ty119
 ·cases h; exact TyOk.of ty121
 ·cases h; exact TyOk.of ty122
 ·cases h; exact TyOk.of ty123
 ·cases h; exact TyOk.of ty124
 ·cases h; exact TyOk.of ty125
 ·cases h; exact TyOk.of ty127
 ·cases h; exact TyOk.of ty128
 ·cases h; exact TyOk.of ty129
 ·cases h; exact TyOk.of ty130
 ·cases h; exact TyOk.of ty132
 ·cases h; exact TyOk.of ty133
 ·cases h; exact TyOk.of ty134
 ·cases h; exact TyOk.of ty135
 ·cases h; exact TyOk.of ty136
 ·cases h; exact TyOk.of ty137
 ·cases h; exact TyOk.of ty138
 ·cases h; exact TyOk.of ty139
 ·cases h; exact TyOk.of ty140
 ·cases h; exact TyOk.of ty141
 ·cases h; exact TyOk.of ty142
 ·cases h; exact TyOk.of ty143
 ·cases h; exact TyOk.of ty144
 ·cases h; exact TyOk.of ty146
 ·cases h; exact TyOk.of ty148
 ·cases h; exact TyOk.of ty149
 ·cases h; exact TyOk.of ty151
 ·cases h; exact TyOk.of ty153
 ·cases h; exact TyOk.of ty154
 ·cases h; exact TyOk.of ty155
 ·cases h; exact TyOk.of ty156
 ·cases h; exact TyOk.of ty157
 ·cases h; exact TyOk.of ty158
 ·cases h; exact TyOk.of ty159
 ·cases h; exact TyOk.of ty160
 ·cases h; exact TyOk.of ty161
 ·cases h; exact TyOk.of ty162
 ·cases h; exact TyOk.of ty163
 ·cases h; exact TyOk.of ty164
 ·cases h; exact TyOk.of ty165
 ·cases h; exact TyOk.of ty166
 ·cases h; exact TyOk.of ty167
 ·cases h; exact TyOk.of ty168
 ·cases h; exact TyOk.of ty169
 ·cases h; exact TyOk.of ty171
 ·cases h; exact TyOk.of ty172
 ·cases h; exact TyOk.of ty173
 ·cases h; exact TyOk.of ty175
 ·cases h; exact TyOk.of ty176
 ·cases h; exact TyOk.of ty179
 ·cases h; exact TyOk.of ty180
 ·cases h; exact TyOk.of ty181
 ·cases h; exact TyOk.of ty182
 ·cases h; exact TyOk.of ty183
 ·cases h; exact TyOk.of ty184
 ·cases h; exact TyOk.of ty185
 ·cases h; exact TyOk.of ty187
 ·cases h; exact TyOk.of ty188
 ·cases h; exact TyOk.of ty189
 ·cases h; exact TyOk.of ty192
 ·cases h; exact TyOk.of ty195
 ·cases h; exact TyOk.of ty196
 ·cases h; exact TyOk.of ty197
 ·cases h; exact TyOk.of ty198
 ·cases h; exact TyOk.of ty199
 ·cases h; exact TyOk.of ty200
 ·cases h; exact TyOk.of ty201
 ·cases h; exact TyOk.of ty204
 ·cases h; exact TyOk.of ty205
 ·cases h
theorem mixed : Tryz.prog.follows .mixedOrders = true := by kernel_rfl
section
variable {X : Ctx} {Q : Exit → St → Prop} {s : St} {ops : List Oper}
theorem rgK (id n : Nat) (ks : List Nat) (h : awpR false X ops.toArray (ops.take n) (ops.drop n) Q (s.kills ks)) (hm : X.P.follows .mixedOrders = true := by exact mixed) (hok : ordOk false ops.toArray n = true := by kernel_rfl) (hak : allocKeys ops.toArray = ks := by kernel_rfl) (hK : (ks.all fun k => !(X.K.contains k)) = true := by kernel_rfl) : awp X (.region id ops.toArray true) Q s := awp_regE id n ks hm hok hak hK h
theorem rg (id n : Nat) (h : awpR false X ops.toArray (ops.take n) (ops.drop n) Q s) (hm : X.P.follows .mixedOrders = true := by exact mixed) (hok : ordOk false ops.toArray n = true := by kernel_rfl) (hak : allocKeys ops.toArray = [] := by kernel_rfl) : awp X (.region id ops.toArray true) Q s := awp_reg id n hm hok hak h
end
end Go.Proofs.YtejigedigmagdaaGreat
namespace Go.Vw
abbrev B : Nat := 4294967296
def val : List Nat → Nat
 | [] => 0
 | x :: l => x + B * val l
def WF (l : List Nat) : Prop := ∀ x ∈ l, x < B
def limbs (n : Nat) : List Nat := if h : n = 0 then [] else n % B :: limbs (n / B)
termination_by n
decreasing_by exact Nat.div_lt_self (Nat.pos_of_ne_zero h) (by decide)
theorem limbs_zero : limbs 0 = [] := by unfold limbs; simp
theorem limbs_pos {n : Nat} (h : n ≠ 0) : limbs n = n % B :: limbs (n / B) := by
 rw [limbs]; simp [h]
theorem val_limbs (n : Nat) : val (limbs n) = n := by
 induction n using Nat.strongRecOn with
 | _ n ih =>
  by_cases h : n = 0
  ·subst h; rw [limbs_zero]; rfl
  ·rw [limbs_pos h, val, ih _ (Nat.div_lt_self (Nat.pos_of_ne_zero h) (by decide))]
   exact Nat.mod_add_div n B
theorem wf_limbs (n : Nat) : WF (limbs n) := by
 induction n using Nat.strongRecOn with
 | _ n ih =>
  by_cases h : n = 0
  ·subst h; rw [limbs_zero]; intro x hx; cases hx
  ·rw [limbs_pos h]
   intro x hx
   rcases List.mem_cons.1 hx with rfl | hx
   ·exact Nat.mod_lt _ (by decide)
   ·exact ih _ (Nat.div_lt_self (Nat.pos_of_ne_zero h) (by decide)) x hx
theorem WF.tail {x : Nat} {l : List Nat} (h : WF (x :: l)) : WF l := fun y hy => h y (by simp [hy])
theorem WF.head {x : Nat} {l : List Nat} (h : WF (x :: l)) : x < B := h x (by simp)
theorem WF.nil : WF [] := fun x hx => by cases hx
theorem WF.append {a b : List Nat} (ha : WF a) (hb : WF b) : WF (a ++ b) := fun x hx => by
 rcases List.mem_append.1 hx with h | h
 ·exact ha x h
 ·exact hb x h
theorem WF.take {a : List Nat} (ha : WF a) (n : Nat) : WF (a.take n) := fun x hx => ha x (List.mem_of_mem_take hx)
theorem WF.drop {a : List Nat} (ha : WF a) (n : Nat) : WF (a.drop n) := fun x hx => ha x (List.mem_of_mem_drop hx)
theorem WF.getD {a : List Nat} (ha : WF a) (i : Nat) : a.getD i 0 < B := by
 by_cases h : i < a.length
 ·simp only [List.getD, List.getElem?_eq_getElem h, Option.getD_some]; exact ha _ (List.getElem_mem h)
 ·simp [List.getD, List.getElem?_eq_none (Nat.le_of_not_lt h)]
theorem val_append (a b : List Nat) : val (a ++ b) = val a + B ^ a.length * val b := by
 induction a with
 | nil => simp [val]
 | cons x a ih =>
  simp only [List.cons_append, val, ih, List.length_cons, Nat.pow_succ]
  rw [Nat.mul_add, Nat.mul_comm (B ^ a.length) B, Nat.mul_assoc, Nat.add_assoc]
theorem val_lt {l : List Nat} (h : WF l) : val l < B ^ l.length := by
 induction l with
 | nil => simp [val]
 | cons x l ih =>
  have h1 := ih h.tail
  have h2 := h.head
  simp only [val, List.length_cons, Nat.pow_succ]
  calc x + B * val l < B + B * val l := by omega
   _ = B * (val l + 1) := by rw [Nat.mul_add]; omega
   _ ≤ B * B ^ l.length := Nat.mul_le_mul_left _ h1
   _ = B ^ l.length * B := Nat.mul_comm _ _
def valid (l : List Nat) : Bool := l.isEmpty || l.getD (l.length - 1) 0 != 0
def trimL : List Nat → List Nat
 | [] => []
 | x :: l => match trimL l with
  | [] => if x = 0 then [] else [x]
  | y :: r => x :: y :: r
theorem trimL_val (l : List Nat) : val (trimL l) = val l := by
 induction l with
 | nil => rfl
 | cons x l ih =>
  simp only [trimL]
  cases h : trimL l with
  | nil =>
   rw [h] at ih
   simp only [val] at ih ⊢
   split
   ·rename_i hx; simp [hx, val, ← ih]
   ·simp [val, ← ih]
  | cons y r =>
   rw [h] at ih
   simp only [val] at ih ⊢
   rw [ih]
theorem trimL_limbs {l : List Nat} (h : WF l) : trimL l = limbs (val l) := by
  induction l with
  | nil => simp [trimL, val, limbs_zero]
  | cons x l ih =>
    have ih := ih h.tail
    have hx := h.head
    have hv := trimL_val l
    have e1 : (x + B * val l) % B = x := by rw [Nat.add_mul_mod_self_left]; exact Nat.mod_eq_of_lt hx
    have e2 : (x + B * val l) / B = val l := by rw [Nat.add_mul_div_left _ _ (by decide)]; simp [Nat.div_eq_of_lt hx]
    simp only [trimL, val]
    cases ht : trimL l with
    | nil =>
      rw [ht] at hv
      simp only [val] at hv
      rw [← hv]
      by_cases h0 : x = 0
      · simp [h0, limbs_zero]
      · have hx' : x % B = x := Nat.mod_eq_of_lt hx
        have hx2 : x / B = 0 := Nat.div_eq_of_lt hx
        rw [Nat.mul_zero, Nat.add_zero, limbs_pos h0, hx', hx2, limbs_zero]
        simp [h0]
    | cons y r =>
      rw [ht] at ih
      have hne : val l ≠ 0 := fun h0 => by rw [h0, limbs_zero] at ih; cases ih
      rw [limbs_pos (by have : B * val l ≠ 0 := Nat.mul_ne_zero (by decide) hne
                        omega), e1, e2, ← ih]
theorem trimL_limbs_self (n : Nat) : trimL (limbs n) = limbs n := by rw [trimL_limbs (wf_limbs n), val_limbs]
theorem trimL_snoc (l : List Nat) (x : Nat) : trimL (l ++ [x]) = if x = 0 then trimL l else l ++ [x] := by
 induction l with
 | nil => simp [trimL]
 | cons y l ih =>
  simp only [List.cons_append, trimL, ih]
  by_cases h0 : x = 0
  ·simp only [h0, if_true]
  ·simp only [h0, if_false]
   cases l <;> simp
theorem valid_snoc (l : List Nat) (x : Nat) : valid (l ++ [x]) = (x != 0) := by
 simp [valid, List.getD]
theorem list_snoc {l : List Nat} (h : l ≠ []) : l = l.take (l.length - 1) ++ [l.getD (l.length - 1) 0] := by
 have hp : l.length ≠ 0 := fun e => h (List.length_eq_zero_iff.1 e)
 have h1 : l.length - 1 < l.length := by omega
 conv => lhs; rw [← List.take_append_drop (l.length - 1) l]
 congr 1
 rw [List.drop_eq_getElem_cons h1]
 have h2 : l.length - 1 + 1 = l.length := by omega
 simp [h2, List.getD, h1]
theorem valid_trim {l : List Nat} (h : valid l = true) : trimL l = l := by
 by_cases hn : l = []
 ·subst hn; rfl
 ·rw [list_snoc hn, valid_snoc] at h
  rw [list_snoc hn, trimL_snoc]
  simp only [bne_iff_ne] at h
  rw [if_neg h]
theorem valid_limbs (n : Nat) : valid (limbs n) = true := by
 by_cases hn : limbs n = []
 ·rw [hn]; rfl
 ·have h := trimL_limbs_self n
  rw [list_snoc hn, trimL_snoc] at h
  rw [list_snoc hn, valid_snoc]
  simp only [bne_iff_ne]
  intro h0
  rw [if_pos h0] at h
  have hlen := congrArg List.length h
  have hle : ∀ l : List Nat, (trimL l).length ≤ l.length := by
   intro l
   induction l with
   | nil => simp [trimL]
   | cons x l ih =>
    simp only [trimL]
    cases ht : trimL l with
    | nil => by_cases h0 : x = 0 <;> simp [h0]
    | cons y r => rw [ht] at ih; simpa using ih
  have := hle ((limbs n).take ((limbs n).length - 1))
  rw [hlen] at this
  simp at this
  have hp : (limbs n).length ≠ 0 := fun e => hn (List.length_eq_zero_iff.1 e)
  omega
def takeL (l : List Nat) : List Nat := if valid l then l else []
def nv (l : List Nat) : Nat := val (takeL l)
theorem takeL_limbs {l : List Nat} (h : WF l) : takeL l = limbs (nv l) := by
 unfold nv takeL
 cases hv : valid l with
 | true => simp only [if_true]; rw [← trimL_limbs h, valid_trim hv]
 | false => simp [val, limbs_zero]
theorem takeL_of (n : Nat) : takeL (limbs n) = limbs n := by simp [takeL, valid_limbs]
theorem nv_limbs (n : Nat) : nv (limbs n) = n := by rw [nv, takeL_of, val_limbs]
theorem length_limbs_le {n k : Nat} (h : n < B ^ k) : (limbs n).length ≤ k := by
  induction k generalizing n with
  | zero => have : n = 0 := by simpa using h
            subst this; simp [limbs_zero]
  | succ k ih =>
    by_cases h0 : n = 0
    · subst h0; simp [limbs_zero]
    · rw [limbs_pos h0]
      have := ih (n := n / B) (Nat.div_lt_of_lt_mul (by rw [Nat.pow_succ, Nat.mul_comm] at h; exact h))
      simpa using this
theorem lt_pow_length (n : Nat) : n < B ^ (limbs n).length := by
 have := val_lt (wf_limbs n)
 rwa [val_limbs] at this
theorem limbs_eq_nil {n : Nat} : limbs n = [] ↔ n = 0 := by
 constructor
 ·intro h
  have := val_limbs n
  rw [h] at this; simpa [val] using this.symm
 ·intro h; subst h; exact limbs_zero
theorem limbs_inj {m n : Nat} (h : limbs m = limbs n) : m = n := by rw [← val_limbs m, ← val_limbs n, h]
theorem val_take_succ (l : List Nat) (i : Nat) : val (l.take (i + 1)) = val (l.take i) + B ^ i * l.getD i 0 := by
 by_cases h : i < l.length
 ·rw [List.take_add_one, val_append]
  simp [List.getD, h, val, Nat.min_eq_left (Nat.le_of_lt h)]
 ·simp [List.getD, List.getElem?_eq_none (Nat.le_of_not_lt h), List.take_of_length_le (Nat.le_of_not_lt h), List.take_of_length_le (show l.length ≤ i + 1 by omega)]
theorem val_take_all (l : List Nat) {i : Nat} (h : l.length ≤ i) : val (l.take i) = val l := by rw [List.take_of_length_le h]
theorem val_snoc (l : List Nat) (x : Nat) : val (l ++ [x]) = val l + B ^ l.length * x := by rw [val_append]; simp [val]
theorem WF.snoc {l : List Nat} (h : WF l) {x : Nat} (hx : x < B) : WF (l ++ [x]) := WF.append h fun y hy => by simp at hy; omega
theorem WF.set {l : List Nat} (h : WF l) (i : Nat) {x : Nat} (hx : x < B) : WF (l.set i x) := fun y hy => by
 rcases List.mem_or_eq_of_mem_set hy with h1 | h1
 ·exact h y h1
 ·omega
theorem wf_takeL {l : List Nat} (h : WF l) : WF (takeL l) := by unfold takeL; split; exact h; exact WF.nil
theorem takeL_le (l : List Nat) : (takeL l).length ≤ l.length := by unfold takeL; split <;> simp
theorem B_val : B = 4294967296 := rfl
theorem val_split (l : List Nat) (i : Nat) (h : i < l.length) : val l = val (l.take i) + B ^ i * (l.getD i 0 + B * val (l.drop (i + 1))) := by
 conv => lhs; rw [← List.take_append_drop i l, val_append]
 rw [List.length_take, Nat.min_eq_left (Nat.le_of_lt h), List.drop_eq_getElem_cons h]
 simp [val, List.getD, h]
def cmpN (m n : Nat) : Int := if m < n then -1 else if n < m then 1 else 0
theorem cmpN_neg (m n : Nat) : cmpN m n < 0 ↔ m < n := by unfold cmpN; split; omega; split <;> omega
theorem cmpN_zero (m n : Nat) : cmpN m n = 0 ↔ m = n := by unfold cmpN; split; omega; split <;> omega
theorem val_lt_of {a b : List Nat} (ha : WF a) {i : Nat} (h1 : i < a.length) (h2 : i < b.length) (hd : a.drop (i + 1) = b.drop (i + 1)) (h : a.getD i 0 < b.getD i 0) : val a < val b := by
 rw [val_split a i h1, val_split b i h2, hd]
 have h3 := val_lt (ha.take i)
 rw [List.length_take, Nat.min_eq_left (Nat.le_of_lt h1)] at h3
 have : B ^ i * (a.getD i 0 + 1 + B * val (b.drop (i + 1))) ≤ B ^ i * (b.getD i 0 + B * val (b.drop (i + 1))) := Nat.mul_le_mul_left _ (by omega)
 have h4 : B ^ i * (a.getD i 0 + 1 + B * val (b.drop (i + 1))) = B ^ i + B ^ i * (a.getD i 0 + B * val (b.drop (i + 1))) := by
  rw [show a.getD i 0 + 1 + B * val (b.drop (i + 1)) = 1 + (a.getD i 0 + B * val (b.drop (i + 1))) by omega, Nat.mul_add, Nat.mul_one]
 omega
theorem drop_eq_of {a b : List Nat} {i : Nat} (h1 : i < a.length) (h2 : i < b.length) (hd : a.drop (i + 1) = b.drop (i + 1)) (h : a.getD i 0 = b.getD i 0) : a.drop i = b.drop i := by
 rw [List.drop_eq_getElem_cons h1, List.drop_eq_getElem_cons h2, hd]
 simp [List.getD, h1, h2] at h
 rw [h]
theorem lt_of_length {m n : Nat} (h : (limbs m).length < (limbs n).length) : m < n := by
 refine Nat.lt_of_not_le fun hh => ?_
 have := length_limbs_le (Nat.lt_of_le_of_lt hh (lt_pow_length m))
 omega
theorem nv_lt {l : List Nat} (h : WF l) : nv l < B ^ l.length := by
 have := val_lt (wf_takeL h)
 exact Nat.lt_of_lt_of_le this (Nat.pow_le_pow_right (by decide) (takeL_le l))
theorem length_limbs_nv {l : List Nat} (h : WF l) : (limbs (nv l)).length ≤ l.length := length_limbs_le (nv_lt h)
theorem limbs_len_mono {m n : Nat} (h : m ≤ n) : (limbs m).length ≤ (limbs n).length := length_limbs_le (Nat.lt_of_le_of_lt h (lt_pow_length n))
end Go.Vw
