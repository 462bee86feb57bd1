/-
  Contracts of functions of the program, and the layer that they are walked with: VO Tab FmA FmB FmC FmD. Conditions: as each says.
-/
import Derived.KernelRfl
import Derived.Test.YtfnonogemgnlhaaDoorProg
import Derived.Test.YtfnonogemgnlhaaDoorA03
/-
  The rules of the walk, their side conditions paid by themselves. Conditions: as each says.
-/
set_option linter.unusedSimpArgs false
set_option linter.unusedVariables false
set_option linter.unusedSectionVars false
namespace Go.Vw
open Go.RowKit

def forceV (C : Prop) : V → Ev V
  | .d y => some (C, .d y)
  | .own k o n ty sz => some (C, .own k o n ty sz)
  | .ptr k o => some (C, .ptr k o)
  | .eptr k sz i f => some (C, .eptr k sz i f)
  | .agg cs => some (C, .agg cs)
  | .tup cs => some (C, .tup cs)
  | .fn f cs => some (C, .fn f cs)
theorem forceV_eq (C : Prop) (x : V) : forceV C x = some (C, x) := by cases x <;> rfl
def evalF (T : TypeId → Option TyD) (m : Bool) (s : St) (op : Op) : Ev V :=
  match evalQ T m s op with
  | some (C, x) => forceV C x
  | none => none
theorem evalF_eq (T : TypeId → Option TyD) (m : Bool) (s : St) (op : Op) : evalF T m s op = evalQ T m s op := by
  unfold evalF
  split
  · rename_i C x h; rw [forceV_eq, h]
  · rename_i h; rw [h]

theorem le2 {α β : Type} {e : α × β → List D} {cs : List D} {a : α} {b : β} (h : LeL cs (e (a, b))) : LeL cs (e (a, b)) := h
theorem le3 {α β γ : Type} {e : α × β × γ → List D} {cs : List D} {a : α} {b : β} {c : γ} (h : LeL cs (e (a, b, c))) : LeL cs (e (a, b, c)) := h

@[reducible] def eI (k : IntKind) (x : Int) : List D := [.int k x]
@[reducible] def eN (k : IntKind) (x : Nat) : List D := [.int k (x : Int)]
@[reducible] def u32s (l : List Nat) : D := .sl 1 (eN .u32) 0 l
@[reducible] def i64s (l : List Int) : D := .sl 1 (eI .i64) 0 l
theorem leN {k : IntKind} {x : Int} (h : 0 ≤ x) : LeL [.int k x] (eN k x.toNat) := by
  rw [eN, Int.toNat_of_nonneg h]; exact LeL.refl _
theorem boolFits_of {dd : TyD} {b : Bool} (h : TypeDesc.isBool dd.desc = true) : boolFits dd (.bool b) := h
theorem iv {k : IntKind} {a b : Int} (h : a = b) : V.d (.int k a) = V.d (.int k b) := by rw [h]
theorem i64max : IntKind.i64.max = 9223372036854775807 := rfl
theorem sc {C : Prop} (h : C := by first | ((repeat' (first | exact trivial | apply And.intro | omega | exact Go.Vw.boolFits_of rfl | decide | with_reducible rfl | with_reducible assumption | (with_reducible show (_ : Nat) = _; exact rfl) | (simp only [IntKind.bits, Go.Vw.i64max, Go.Vw.plus0_eq, List.length_append, List.length_cons, List.length_nil, List.length_set, List.length_replicate, List.length_take, List.length_drop, List.length_map, List.length_range] <;> omega))); done) | fail) : C := h
theorem LeD.eqi {k : IntKind} {x y : Int} (h : x = y) : LeD (.int k x) (.int k y) := by subst h; exact LeD.refl _
theorem leEq {k : IntKind} {x : Int} {n : Nat} (h : x = (n : Int)) : LeL [.int k x] (eN k n) := by subst h; exact LeL.refl _
theorem leEqI {k : IntKind} {x y : Int} (h : x = y) : LeL [.int k x] (eI k y) := by subst h; exact LeL.refl _
theorem LeD.full {sz : Nat} {α : Type} {e : α → List D} {z : α} {l : List α} : LeD (.sl sz e z (cut 0 l.length l)) (.sl sz e z l) := by
  rw [cut_all]; exact LeD.refl _
theorem LeD.tk0 {sz n : Nat} {α : Type} {e : α → List D} {z : α} {l : List α} : LeD (.sl sz e z (cut 0 n l)) (.sl sz e z (l.take n)) := by
  rw [cut_zero]; exact LeD.refl _
theorem leB {x : Int} (h : 0 ≤ x ∧ x < 256) : LeL [.int .u8 x] (eB (UInt8.ofNat x.toNat)) := by
  have : ((UInt8.ofNat x.toNat).toNat : Int) = x := by
    rw [UInt8.toNat_ofNat']
    have : x.toNat % 2 ^ 8 = x.toNat := Nat.mod_eq_of_lt (by omega)
    rw [this]; omega
  rw [eB, this]; exact LeL.refl _
theorem LeD.cutAll {sz n : Nat} {α : Type} {e : α → List D} {z : α} {l : List α} (h : n = l.length) : LeD (.sl sz e z (cut 0 n l)) (.sl sz e z l) := by
  subst h; exact LeD.full
theorem leL {xs ys : List D} (h : LeL xs ys := by
  first
  | with_reducible exact Go.Vw.LeL.refl _
  | exact Go.Vw.leB (by omega)
  | exact Go.Vw.leN (by omega)
  | exact Go.Vw.LeL.refl _
  | exact Go.Vw.leEq (by omega)
  | exact Go.Vw.leEqI (by omega)
  | ((repeat' (first | exact Go.Vw.LeD.refl _ | exact Go.Vw.LeL.nil | apply Go.Vw.LeL.cons | exact Go.Vw.LeD.nils | apply Go.Vw.LeD.agg | exact Go.Vw.LeD.lit rfl Go.Vw.LeR.nil | (refine Go.Vw.LeD.lit rfl (Go.Vw.LeR.cons rfl ?_ ?_)) | exact Go.Vw.LeL.refl _ | exact Go.Vw.LeR.nil | (refine Go.Vw.LeR.cons rfl ?_ ?_))); done)
  | (refine Go.Vw.le3 ?_; (repeat' (first | exact Go.Vw.LeD.refl _ | exact Go.Vw.LeL.nil | apply Go.Vw.LeL.cons | exact Go.Vw.LeD.nils | apply Go.Vw.LeD.agg)); done)
  | (refine Go.Vw.le2 ?_; (repeat' (first | exact Go.Vw.LeD.refl _ | exact Go.Vw.LeL.nil | apply Go.Vw.LeL.cons | exact Go.Vw.LeD.nils | apply Go.Vw.LeD.agg)); done)
  | fail) : LeL xs ys := h
theorem leT {xs ys : List D} (h : LeT xs ys := by
  first
  | ((repeat' (first | exact Go.Vw.LeD.full | exact Go.Vw.LeD.tk0 | exact Go.Vw.LeD.cutAll Go.Vw.sc | exact Go.Vw.LeD.refl _ | exact Go.Vw.LeT.nil | exact Go.Vw.LeD.eqi (by omega) | apply Go.Vw.LeT.cons | exact Go.Vw.LeD.nils | (refine Go.Vw.LeD.agg ?_; exact Go.Vw.leL) | (refine Go.Vw.LeD.lit rfl ?_; repeat' (first | exact Go.Vw.LeR.nil | refine Go.Vw.LeR.cons rfl Go.Vw.leL ?_)) | (refine Go.Vw.LeD.fn ?_; exact Go.Vw.leL) | (refine Go.Vw.LeD.ptr ?_ _; exact Go.Vw.leL))); done)
  | fail) : LeT xs ys := h
theorem src_lit {X : Ctx} {s : St} {sz n : Nat} {α : Type} {e : α → List D} {rows : List (List D)} {a : α} {l : List α} (hn : rows.length = n) (h : LeR sz rows e (a :: l)) : SrcOk X s (.d (.sl sz (nth [] rows) 0 (iota n 0))) sz e (a :: l) := src_data (z := a) (LeD.lit hn h)
theorem srcOk {X : Ctx} {s : St} {y : V} {sz : Nat} {α : Type} {e : α → List D} {l : List α} (h : SrcOk X s y sz e l := by
  first
  | exact Go.Vw.src_data (Go.Vw.LeD.refl _)
  | exact Go.Vw.src_lit rfl (Go.Vw.LeR.cons rfl Go.Vw.leL Go.Vw.LeR.nil)
  | exact Go.Vw.src_lit rfl (Go.Vw.LeR.cons rfl Go.Vw.leL (Go.Vw.LeR.cons rfl Go.Vw.leL Go.Vw.LeR.nil))
  | exact Go.Vw.src_data Go.Vw.LeD.nils
  | exact Go.Vw.src_all rfl rfl
  | exact Go.Vw.src_own rfl
  | fail) : SrcOk X s y sz e l := h

theorem tt : true = true := rfl
theorem ff : false = false := rfl
theorem stt : some true = some true := rfl
theorem sff : some false = some false := rfl
def opK : Op → Nat
  | .store .. => 1
  | .alloc _ => 2
  | .box _ _ => 2
  | .call ⟨.builtin .append, _, _⟩ => 3
  | .call ⟨.builtin _, _, _⟩ => 0
  | .call _ => 6
  | .makeSlice .. => 4
  | .buildSlice .. => 5
  | _ => 0
section
variable {X : Ctx} {all : Array Oper} {s : St} {o : Oper}
theorem m_q (m : Bool) (hg : gd all s o = some true) {C : Prop} {x : V} (hq : evalF X.T m s o.op = some (C, x)) (hC : C) : M1 X all s o x := m_quiet X.ok m hg (by rw [evalF_eq] at hq; exact hq) hC
variable {Q : Exit → St → Prop} {rest : List Oper}
theorem stepM {x : V} {d : Tmp} (hdst : o.dst = some d) (hd : dstOk X.N (some d) = true) (h : M1 X all s o x) (k : awpL X all rest Q (s.put (some d) x)) : awpL X all (o :: rest) Q s := by
  rw [← hdst] at hd k; exact awpL_step (h.e1 hd) k
theorem stepQ {d : Tmp} {C : Prop} {x : V} (m : Bool) (hk : Nat.beq (opK o.op) 0 = true) (hg : gd all s o = some true) (hdst : o.dst = some d) (hd : dstOk X.N (some d) = true) (hq : evalF X.T m s o.op = some (C, x)) (hC : C) (k : awpL X all rest Q (s.put (some d) x)) : awpL X all (o :: rest) Q s := stepM hdst hd (m_q m hg hq hC) k
theorem stepOff {d : Tmp} (hg : gd all s o = some false) (hdst : o.dst = some d) (hd : dstOk X.N (some d) = true) (k : awpL X all rest Q (s.put (some d) (.d (.tup [])))) : awpL X all (o :: rest) Q s := stepM hdst hd (m_off hg) k
theorem stepM0 {x : V} (hk : Nat.beq (opK o.op) 0 = true) (hdst : o.dst = none) (h : M1 X all s o x) (k : awpL X all rest Q s) : awpL X all (o :: rest) Q s := by
  refine awpL_step (h.e1 (by rw [hdst]; rfl)) ?_; rw [hdst]; exact k
theorem stepE1 {s' : St} {x : V} {d : Tmp} (hkk : Nat.beq (opK o.op) 2 = true) (hdst : o.dst = some d) (hg : gd all s o = some true) (hd : dstOk X.N (some d) = true) (hK : X.K.contains d = false) (h : evalE X.T s (some d) o.op = some (some x, s')) (k : awpL X all rest Q (s'.put (some d) x)) : awpL X all (o :: rest) Q s := by
  obtain ⟨dst, op, ty, pos, after, g⟩ := o
  cases hdst
  exact awpL_step (e_eff X.ok hg hd (fun d' e => by cases e; exact hK) h) k
theorem stepE0 {s' : St} (hkk : Nat.beq (opK o.op) 1 = true) (hdst : o.dst = none) (hg : gd all s o = some true) (h : evalE X.T s none o.op = some (none, s')) (k : awpL X all rest Q s') : awpL X all (o :: rest) Q s := by
  obtain ⟨dst, op, ty, pos, after, g⟩ := o
  cases hdst
  exact awpL_step (e_eff X.ok hg rfl (fun d' e => by cases e) h) k
end

def SrcZ (X : Ctx) (s : St) (y : V) (sz : Nat) {α : Type} (e : α → List D) (z : α) (l : List α) : Prop := SrcOk X s y sz e l
theorem srcz_sl {X : Ctx} {s : St} {y : D} {sz : Nat} {α : Type} {e : α → List D} {z : α} {l : List α} (h : y = .sl sz e z l) : SrcZ X s (.d y) sz e z l := by
  subst h; exact src_data (LeD.refl _)
theorem srcz_lit {X : Ctx} {s : St} {y : D} {sz : Nat} {α : Type} [Inhabited α] {e : α → List D} {l : List α} (h : SrcOk X s (.d y) sz e l) : SrcZ X s (.d y) sz e default l := h
theorem srcz_all {X : Ctx} {s : St} {k n : Nat} {ty ty' : TypeId} {sz : Nat} {α : Type} {e : α → List D} {z : α} {l : List α} (hk : s.blk k = some (.data ty' sz e z l)) (hn : n = l.length) : SrcZ X s (.own k 0 n ty sz) sz e z l := src_all hk hn
theorem srcz_own {X : Ctx} {s : St} {k o n : Nat} {ty ty' : TypeId} {sz : Nat} {α : Type} {e : α → List D} {z : α} {l : List α} (hk : s.blk k = some (.data ty' sz e z l)) : SrcZ X s (.own k o n ty sz) sz e z (cut o n l) := src_own hk
theorem srcZ {X : Ctx} {s : St} {y : V} {sz : Nat} {α : Type} {e : α → List D} {z : α} {l : List α} (h : SrcZ X s y sz e z l := by
  first
  | exact Go.Vw.srcz_sl rfl
  | exact Go.Vw.srcz_lit (Go.Vw.src_lit rfl (Go.Vw.LeR.cons rfl Go.Vw.leL Go.Vw.LeR.nil))
  | exact Go.Vw.srcz_lit (Go.Vw.src_lit rfl (Go.Vw.LeR.cons rfl Go.Vw.leL (Go.Vw.LeR.cons rfl Go.Vw.leL Go.Vw.LeR.nil)))
  | exact Go.Vw.srcz_all rfl rfl
  | exact Go.Vw.srcz_own rfl
  | fail) : SrcZ X s y sz e z l := h
section
variable {X : Ctx} {all : Array Oper} {s : St} {o : Oper} {Q : Exit → St → Prop} {rest : List Oper} {d : Tmp} {α : Type} {en : α → List D} {z : α} {l : List α} {td ed : TyD}
theorem stepStore {t ety : TypeId} {addr x : Operand} {k sz i f : Nat} {y : D} {cs : List D} {a' : α} (hkk : Nat.beq (opK o.op) 1 = true) (hop : o.op = .store t addr x) (hdst : o.dst = none) (hg : gd all s o = some true) (ht : X.T t = some td) (ha : s.opd addr = .eptr k sz i f) (hk : s.blk k = some (.data ety sz en z l)) (hx : s.opd x = .d y) (hst : ((V.d y).storable && Nat.beq y.cells.length td.size) = true) (hp : putL (en (l.getD i z)) f y.cells = some cs) (hle : LeL cs (en a')) (hi : i < l.length) (r : awpL X all rest Q (s.withBlk k (.data ety sz en z (l.set i a')))) : awpL X all (o :: rest) Q s := by
  obtain ⟨dst, op, ty, pos, after, g⟩ := o
  cases hop; cases hdst
  exact awpL_step (e_store X.ok hg ht ha hk hx hst hp hle hi) r
theorem stepStoreV {t ety : TypeId} {addr x : Operand} {k i k2 o2 n2 : Nat} {ty2 : TypeId} {sz2 : Nat} (hkk : Nat.beq (opK o.op) 1 = true) (hop : o.op = .store t addr x) (hdst : o.dst = none) (hg : gd all s o = some true) (hx : s.opd x = .own k2 o2 n2 ty2 sz2) (ht : X.T t = some td) (ha : s.opd addr = .eptr k 1 i 0) (hk : s.blk k = some (.data ety 1 en z l)) (hsz : Nat.beq td.size 1 = true) (hi : i < l.length) (r : awpL X all rest Q (s.withBlk k (.hole ety 1 en z l i (.own k2 o2 n2 ty2 sz2)))) : awpL X all (o :: rest) Q s := by
  obtain ⟨dst, op, ty, pos, after, g⟩ := o
  cases hop; cases hdst
  exact awpL_step (e_storeV X.ok hg ht ha hk hx hsz hi) r
theorem stepApp {t : TypeId} {c : Call} {x y : Operand} {e : TypeId} {k n : Nat} {l2 : List α} (hkk : Nat.beq (opK o.op) 3 = true) (hop : o.op = .call c) (hc : c = ⟨.builtin .append, #[x, y], #[t, t]⟩) (hdst : o.dst = some d) (hg : gd all s o = some true) (hd : dstOk X.N (some d) = true) (ht : X.T t = some td) (hds : td.desc = .slice e) (he : X.T e = some ed) (hx : s.opd x = .own k 0 n e ed.size) (hK : X.K.contains k = false) (hk : s.blk k = some (.data e ed.size en z l)) (hz : zeroOk ed = true) (hn : n = l.length) (hy : SrcOk X s (s.opd y) ed.size en l2) (hb : l.length + l2.length ≤ 9223372036854775807 ∧ (l.length + l2.length) * ed.bytes ≤ 140737488355328) (r : awpL X all rest Q ((s.new k (.data e ed.size en z (l ++ l2))).put (some d) (.own k 0 (l ++ l2).length e ed.size))) : awpL X all (o :: rest) Q s := by
  obtain ⟨dst, op, ty, pos, after, g⟩ := o
  cases hop; cases hdst; subst hc
  exact awpL_step (e_append X.ok hg hd ht hds he hK hx hk hn hy hz hb) r
theorem stepAppNil {t : TypeId} {c : Call} {x y : Operand} {e : TypeId} {l2 : List α} (hkk : Nat.beq (opK o.op) 3 = true) (hop : o.op = .call c) (hc : c = ⟨.builtin .append, #[x, y], #[t, t]⟩) (hdst : o.dst = some d) (hg : gd all s o = some true) (hd : dstOk X.N (some d) = true) (ht : X.T t = some td) (hds : td.desc = .slice e) (he : X.T e = some ed) (hx : s.opd x = .d .nils) (hK : X.K.contains d = false) (hz : zeroOk ed = true) (hy : SrcZ X s (s.opd y) ed.size en z l2) (hb : l2.length ≤ 9223372036854775807 ∧ l2.length * ed.bytes ≤ 140737488355328) (r : awpL X all rest Q (((s.new d (.data e ed.size en z [])).new d (.data e ed.size en z l2)).put (some d) (.own d 0 l2.length e ed.size))) : awpL X all (o :: rest) Q s := by
  obtain ⟨dst, op, ty, pos, after, g⟩ := o
  cases hop; cases hdst; subst hc
  exact awpL_step (e_appnil X.ok hg hd ht hds he hK hx hy hz hb) r
theorem stepMake {mm : Bool} {t e : TypeId} {lo co : Operand} {n m : Int} {C : Prop} {j : Nat} (hkk : Nat.beq (opK o.op) 4 = true) (hop : o.op = .makeSlice t lo co) (hdst : o.dst = some d) (hg : gd all s o = some true) (hd : dstOk X.N (some d) = true) (hK : X.K.contains d = false) (ht : X.T t = some td) (hds : td.desc = .slice e) (he : X.T e = some ed) (hl : intOfV (s.opd lo) = some n) (hc : intOfV (s.opd co) = some m) (hn : natOf mm n = some (C, ⟨j⟩)) (hz : zeroOk ed = true) (le : LeL (D.ofV ed.zero).cells (en z)) (hC : C) (hb : n ≤ m ∧ m * ed.bytes ≤ 140737488355328 ∧ m ≤ 9223372036854775807) (r : awpL X all rest Q ((s.new d (.data e ed.size en z (List.replicate j z))).put (some d) (.own d 0 j e ed.size))) : awpL X all (o :: rest) Q s := by
  obtain ⟨dst, op, ty, pos, after, g⟩ := o
  cases hop; cases hdst
  exact awpL_step (e_make X.ok hg hd hK ht hds he hl hc hn hz le hC hb) r
theorem stepLit {e : TypeId} {sz len : Nat} {rows : List (List D)} (hkk : Nat.beq (opK o.op) 5 = true) (h : evalB X.T s o.op = some (e, sz, len, rows)) (hdst : o.dst = some d) (hg : gd all s o = some true) (hd : dstOk X.N (some d) = true) (k : awpL X all rest Q (s.put (some d) (.d (.sl sz (nth [] rows) 0 (iota len 0))))) : awpL X all (o :: rest) Q s := stepM hdst hd (m_lit X.ok hg h) k
end

def litApp (d : Tmp) : List Oper → Bool
  | [] => false
  | o :: r => match o.op with
    | .call ⟨.builtin .append, args, _⟩ => (match args.toList with | .tmp t :: _ => Nat.beq t d | _ => false) || litApp d r
    | _ => litApp d r
section
variable {X : Ctx} {all : Array Oper} {s : St} {o : Oper} {Q : Exit → St → Prop} {pre rest : List Oper} {d : Tmp} {α : Type} {en : α → List D} {z : α} {l l2 : List α} {td ed : TyD} {d1 d2 : D}
theorem stepLitF {e : TypeId} {sz len : Nat} {rows : List (List D)} (hkk : Nat.beq (opK o.op) 5 = true) (hdst : o.dst = some d) (hla : litApp d rest = true) (h : evalB X.T s o.op = some (e, sz, len, rows)) (hg : gd all s o = some true) (hd : dstOk X.N (some d) = true) (k : awpL X all rest Q (s.put (some d) (.d (.full (.sl sz (nth [] rows) 0 (iota len 0)))))) : awpL X all (o :: rest) Q s := stepM hdst hd (m_litF X.ok hg h) k
theorem m_appF' {t : TypeId} {c : Call} {x y : Operand} {e : TypeId} (hop : o.op = .call c) (hc : c = ⟨.builtin .append, #[x, y], #[t, t]⟩) (hg : gd all s o = some true) (ht : X.T t = some td) (hds : td.desc = .slice e) (he : X.T e = some ed) (hx : s.opd x = .d (.full d1)) (hz : zeroOk ed = true) (hy : s.opd y = .d d2) (le2 : LeD d2 (.sl ed.size en z l2)) (le1 : LeD d1 (.sl ed.size en z l)) (hb : l.length + l2.length ≤ 9223372036854775807 ∧ (l.length + l2.length) * ed.bytes ≤ 140737488355328) : M1 X all s o (.d (.sl ed.size en z (l ++ l2))) := by
  subst hc; exact m_appF X.ok hop hg ht hds he hx le1 hy le2 hz hb
theorem stepB2S {src dst e : TypeId} {y : Operand} {sd dd : TyD} {l : List UInt8} (hop : o.op = .convert src dst y) (hdst : o.dst = some d) (hs : X.T src = some sd) (hsd : sd.desc = .slice e) (hdt : X.T dst = some dd) (hdd : dd.desc = .string) (he : X.T e = some ed) (hed : ed.desc = .int .u8) (hg : gd all s o = some true) (hd : dstOk X.N (some d) = true) (hy : s.opd y = .d d1) (le : LeD d1 (.sl 1 eB 0 l)) (k : awpL X all rest Q (s.put (some d) (.d (.str l)))) : awpL X all (o :: rest) Q s := stepM hdst hd (m_b2s X.ok hop hg hs hsd he hed hdt hdd hy le) k
theorem stepB2SO {src dst e : TypeId} {y : Operand} {sd dd : TyD} {l : List UInt8} {k o1 n : Nat} {ty ty' : TypeId} {z : UInt8} (hop : o.op = .convert src dst y) (hdst : o.dst = some d) (hs : X.T src = some sd) (hsd : sd.desc = .slice e) (hdt : X.T dst = some dd) (hdd : dd.desc = .string) (he : X.T e = some ed) (hed : ed.desc = .int .u8) (hg : gd all s o = some true) (hd : dstOk X.N (some d) = true) (hy : s.opd y = .own k o1 n ty 1) (hk : s.blk k = some (.data ty' 1 eB z l)) (r : awpL X all rest Q (s.put (some d) (.d (.str (cut o1 n l))))) : awpL X all (o :: rest) Q s := stepM hdst hd (m_b2sO X.ok hop hg hs hsd he hed hdt hdd hy hk) r
theorem stepS2B {src dst e : TypeId} {y : Operand} {sd dd : TyD} {l : List UInt8} (hop : o.op = .convert src dst y) (hdst : o.dst = some d) (hs : X.T src = some sd) (hsd : sd.desc = .string) (hdt : X.T dst = some dd) (hdd : dd.desc = .slice e) (he : X.T e = some ed) (hed : ed.desc = .int .u8) (hg : gd all s o = some true) (hd : dstOk X.N (some d) = true) (hy : s.opd y = .d (.str l)) (k : awpL X all rest Q (s.put (some d) (.d (.sl 1 eB 0 l)))) : awpL X all (o :: rest) Q s := stepM hdst hd (m_s2b X.ok hop hg hs hsd hdt hdd he hed hy) k
theorem stepAppF {t : TypeId} {c : Call} {x y : Operand} {e : TypeId} (hkk : Nat.beq (opK o.op) 3 = true) (hop : o.op = .call c) (hc : c = ⟨.builtin .append, #[x, y], #[t, t]⟩) (hdst : o.dst = some d) (hx : s.opd x = .d (.full d1)) (hg : gd all s o = some true) (hd : dstOk X.N (some d) = true) (ht : X.T t = some td) (hds : td.desc = .slice e) (he : X.T e = some ed) (hz : zeroOk ed = true) (hy : s.opd y = .d d2) (le2 : LeD d2 (.sl ed.size en z l2)) (le1 : LeD d1 (.sl ed.size en z l)) (hb : l.length + l2.length ≤ 9223372036854775807 ∧ (l.length + l2.length) * ed.bytes ≤ 140737488355328) (k : awpL X all rest Q (s.put (some d) (.d (.sl ed.size en z (l ++ l2))))) : awpL X all (o :: rest) Q s := stepM hdst hd (m_appF' hop hc hg ht hds he hx hz hy le2 le1 hb) k
end

/-! ## Ways out -/
section
variable {X : Ctx} {Q : Exit → St → Prop} {K : St → Prop} {s : St} {id n : Nat}
theorem thenN (h : K s) : andThen K Q .normal s := h
theorem thenX (h : Q (.exit n) s) : andThen K Q (.exit n) s := h
theorem thenR (h : Q .ret s) : andThen K Q .ret s := h
theorem inN (h : Q .normal s) : inBlock id Q .normal s := h
theorem inR (h : Q .ret s) : inBlock id Q .ret s := h
theorem inX (h : Q .normal s) : inBlock id Q (.exit id) s := by simp only [inBlock, Nat.beq_refl]; exact h
theorem inY (he : Nat.beq n id = false) (h : Q (.exit n) s) : inBlock id Q (.exit n) s := by simp only [inBlock, he]; exact h
end

/-! ## The part of a drawn region whose order is open, then the rest -/

def awpR (ex : Bool) (X : Ctx) (all : Array Oper) (pre rest : List Oper) (Q : Exit → St → Prop) (s : St) : Prop := ∃ s1, PRun ex X all pre s s1 ∧ awpL X all rest Q s1

section
variable {ex : Bool} {X : Ctx} {all : Array Oper} {Q : Exit → St → Prop} {s : St} {o : Oper} {pre rest : List Oper}
theorem awpR_nil (h : awpL X all rest Q s) : awpR ex X all [] rest Q s := ⟨s, .nil, h⟩
theorem isMove_no (h : regOp o.op = false) : isMove o = false := by
  unfold isMove
  rw [h]; rfl
theorem isAlloc_no (h : ∀ e, o.op ≠ .alloc e) : isAlloc o = false := by
  unfold isAlloc
  split
  · rename_i e h1; exact absurd h1 (h e)
  · rfl
theorem isMove_off (h : gd all s o = some false) : isMove o = false := by
  unfold isMove
  have : o.guard ≠ none := fun e => by unfold gd at h; rw [e] at h; cases h
  cases hg : o.guard with
  | none => exact absurd hg this
  | some p => simp
theorem regOp_k {op : Op} (h : regOp op = true) : opK op = 0 := by
  cases op with
  | call c =>
    obtain ⟨cal, args, tys⟩ := c
    cases cal with
    | builtin b => cases b <;> first | rfl | cases h
    | value f => cases h
    | invoke r m => cases h
  | _ => first | rfl | cases h
theorem isMove_k {n : Nat} (h : Nat.beq (opK o.op) n = true) (hn : n ≠ 0) : isMove o = false := isMove_no (by
  have hk := Nat.eq_of_beq_eq_true h
  cases hr : regOp o.op with
  | false => rfl
  | true => rw [regOp_k hr] at hk; exact absurd hk.symm hn)
theorem isMove_call {c : Call} (h : o.op = .call c) (hb : regOp (.call c) = false) : isMove o = false := isMove_no (by rw [h]; exact hb)
theorem callee_reg {c : Call} {x : FuncId × List V} (h : calleeOf s c = some x) : regOp (.call c) = false := by
  unfold calleeOf at h
  unfold regOp
  split at h
  · rename_i y e; simp only [e]
  · cases h
theorem isMove_conv {a b : TypeId} {x : Operand} (h : o.op = .convert a b x) : isMove o = false := isMove_no (by rw [h]; rfl)
theorem isLoad_k {n : Nat} (h : Nat.beq (opK o.op) n = true) (hn : n ≠ 0) : isLoad o = false := by
  unfold isLoad
  have hk := Nat.eq_of_beq_eq_true h
  revert hk
  cases o.op <;> intro hk <;> first | rfl | exact absurd hk.symm hn
theorem isLoad_call {c : Call} (h : o.op = .call c) : isLoad o = false := by unfold isLoad; rw [h]; rfl
theorem isLoad_conv {a b : TypeId} {x : Operand} (h : o.op = .convert a b x) : isLoad o = false := by unfold isLoad; rw [h]; rfl
theorem isLoad_off (h : gd all s o = some false) : isLoad o = false := by
  unfold isLoad
  have : o.guard ≠ none := fun e => by unfold gd at h; rw [e] at h; cases h
  cases hg : o.guard with
  | none => exact absurd hg this
  | some p => simp
theorem chkLd_not {k : Option Nat} (h : isLoad o = false) : chkLd all k o = true := by unfold chkLd; rw [h]; rfl
theorem isAlloc_k {n : Nat} (h : Nat.beq (opK o.op) n = true) (hn : n ≠ 2) : isAlloc o = false := isAlloc_no fun y e => by rw [e] at h; exact hn (Nat.eq_of_beq_eq_true h).symm
theorem isAlloc_call {c : Call} (h : o.op = .call c) : isAlloc o = false := isAlloc_no fun y e => by rw [h] at e; cases e
theorem isAlloc_conv {a b : TypeId} {x : Operand} (h : o.op = .convert a b x) : isAlloc o = false := isAlloc_no fun y e => by rw [h] at e; cases e
theorem awpR_cons {x : D} {d : Tmp} (hn : isMove o = false) (hna : isAlloc o = false) (hnl : isLoad o = false) (hdst : o.dst = some d) (hd : dstOk X.N (some d) = true) (h : M1 X all s o (.d x)) (k : awpR ex X all pre rest Q (s.put (some d) (.d x))) : awpR ex X all (o :: pre) rest Q s := by
  rw [← hdst] at hd k
  obtain ⟨s1, h1, h2⟩ := k
  exact ⟨s1, .cons hd h (fun hm => by rw [hn] at hm; cases hm) hna rfl (fun hm => by rw [hnl] at hm; cases hm) (fun _ => chkLd_not hnl) h1, h2⟩
theorem opd_agree {s' : St} {y : Operand} (hy : y ∈ o.op.operands.toList) (h : ∀ t ∈ o.looksAt all, s'.tmps t = s.tmps t) : s'.opd y = s.opd y := by
  cases y with
  | tmp t => exact h t (by unfold Oper.looksAt; rw [List.mem_append]; left; rw [List.mem_filterMap]; exact ⟨_, hy, rfl⟩)
  | const v => rfl
  | global g => rfl
  | func f => rfl
theorem gd_agree {s' : St} (h : ∀ t ∈ o.looksAt all, s'.tmps t = s.tmps t) : gd all s' o = gd all s o := by
  unfold gd
  cases hg : o.guard with
  | none => rfl
  | some p =>
    obtain ⟨g, want⟩ := p
    simp only
    cases hd : (all[g]?).bind (·.dst) with
    | none => rfl
    | some d => simp only [h d (by unfold Oper.looksAt; rw [List.mem_append]; right; simp [hg, hd])]
theorem evalQ_move {T : TypeId → Option TyD} {m : Bool} {s' : St} (hm : isMove o = true) (h : ∀ t ∈ o.looksAt all, s'.tmps t = s.tmps t) : evalQ T m s' o.op = evalQ T m s o.op := by
  have hop := fun y hy => opd_agree (s := s) (s' := s') (o := o) (all := all) (y := y) hy h
  unfold isMove at hm
  rw [Bool.and_eq_true] at hm
  have hr := hm.1
  unfold regOp at hr
  split at hr
  · rename_i y e; rw [e] at hop ⊢; simp only [evalQ, hop y (by simp [Op.operands])]
  · rename_i y e; rw [e] at hop ⊢; simp only [evalQ, hop y (by simp [Op.operands])]
  · rename_i y i e; rw [e] at hop ⊢; simp only [evalQ, hop y (by simp [Op.operands])]
  · rename_i a b x y c e; rw [e] at hop ⊢; simp only [evalQ, hop x (by simp [Op.operands]), hop y (by simp [Op.operands])]
  · rename_i t x i e; rw [e] at hop ⊢; simp only [evalQ, hop x (by simp [Op.operands]), hop i (by simp [Op.operands])]
  · rename_i t x f e; rw [e] at hop ⊢; simp only [evalQ, hop x (by simp [Op.operands])]
  · rename_i x e; rw [e] at hop ⊢; simp only [evalQ, hop x (by simp [Op.operands])]
  · rename_i c e
    rw [e] at hop ⊢
    obtain ⟨cal, args, tys⟩ := c
    cases cal with
    | builtin b =>
      have h2 : ∀ y ∈ args.toList, s'.opd y = s.opd y := fun y hy => hop y (by simp only [Op.operands, Call.operands]; simpa using hy)
      simp only [evalQ]
      cases hl : args.toList with
      | nil => cases b <;> cases tys[0]? <;> rfl
      | cons x t => cases t with
        | nil => cases b <;> cases tys[0]? <;> first | rfl | (dsimp only; rw [h2 x (by rw [hl]; simp)])
        | cons y u => cases u with
          | nil => cases b <;> cases tys[0]? <;> first | rfl | (dsimp only; rw [h2 x (by rw [hl]; simp), h2 y (by rw [hl]; simp)])
          | cons z u => cases b <;> cases tys[0]? <;> rfl
    | value f => rfl
    | invoke r m => rfl
  · cases hr
theorem evalQ_load {T : TypeId → Option TyD} {m : Bool} {s' : St} {r : Prop × V} (hm : isLoad o = true) (hq : evalQ T m s o.op = some r) (h : ∀ t ∈ o.looksAt all, s'.tmps t = s.tmps t) (hb : ∀ k b, keyOf s o = some k → s.blk k = some b → s'.blk k = some b) : evalQ T m s' o.op = some r := by
  have hop := fun y hy => opd_agree (s := s) (s' := s') (o := o) (all := all) (y := y) hy h
  unfold isLoad at hm
  rw [Bool.and_eq_true] at hm
  have hr := hm.1
  split at hr
  · rename_i t y e
    unfold keyOf at hb
    rw [e] at hop hq hb ⊢
    simp only [evalQ, hop y (by simp [Op.operands])] at hq hb ⊢
    cases hT : T t with
    | none => rw [hT] at hq; cases hq
    | some td =>
      rw [hT] at hq
      cases hy : s.opd y with
      | ptr k o1 =>
        rw [hy] at hq hb
        cases hk : s.blk k with
        | none => simp only [hk] at hq; cases hq
        | some b => simp only [hb k b rfl hk]; simp only [hk] at hq; exact hq
      | eptr k sz i o1 =>
        rw [hy] at hq hb
        cases hk : s.blk k with
        | none => simp only [hk] at hq; cases hq
        | some b => simp only [hb k b rfl hk]; simp only [hk] at hq; exact hq
      | d x => rw [hy] at hq; cases x <;> first | exact hq | cases hq
      | _ => rw [hy] at hq; cases hq
  · cases hr
theorem awpR_consQ {x : V} {d : Tmp} (m : Bool) {C : Prop} (hg : gd all s o = some true) (hq : evalF X.T m s o.op = some (C, x)) (hC : C) (hf : chkV all x = true) (hx : (!ex || chkLd all (keyOf s o) o) = true) (hdst : o.dst = some d) (hd : dstOk X.N (some d) = true) (k : awpR ex X all pre rest Q (s.put (some d) x)) : awpR ex X all (o :: pre) rest Q s := by
  rw [← hdst] at hd k
  obtain ⟨s1, h1, h2⟩ := k
  refine ⟨s1, .cons hd (m_q m hg hq hC) (fun hm s' hs' => m_q m ((gd_agree hs').trans hg) ?_ hC) (isAlloc_no fun e he => ?_) hf (fun hm s' hs' hb => m_q m ((gd_agree hs').trans hg) ?_ hC) (fun e => by subst e; simpa using hx) h1, h2⟩
  · rw [evalF_eq] at hq ⊢
    rw [evalQ_move hm hs']; exact hq
  · rw [evalF_eq, he] at hq
    simp only [evalQ] at hq
    cases hq
  · rw [evalF_eq] at hq ⊢
    exact evalQ_load hm hq hs' hb
theorem awpR_store {k : Nat} {b b0 : Blk} (hs : isStore o = true) (hdst : o.dst = none) (hk : s.blk k = some b0) (hl : b.ln = b0.ln) (hkk : chkK all o k = true) (hf : chkB all b = true) (h : S1 X all s o k b) (hx : (!ex || chkSt all o k) = true) (kk : awpR ex X all pre rest Q (s.withBlk k b)) : awpR ex X all (o :: pre) rest Q s := by
  obtain ⟨s1, h1, h2⟩ := kk
  exact ⟨s1, .store hs hdst hk hl hkk hf h (fun e => by subst e; simpa using hx) h1, h2⟩
theorem stepRStore {α : Type} {en : α → List D} {z : α} {l : List α} {td : TyD} {t ety : TypeId} {addr x : Operand} {k sz i f : Nat} {y : D} {cs : List D} {a' : α} (hkk : Nat.beq (opK o.op) 1 = true) (hop : o.op = .store t addr x) (hdst : o.dst = none) (hg : gd all s o = some true) (ht : X.T t = some td) (ha : s.opd addr = .eptr k sz i f) (hk : s.blk k = some (.data ety sz en z l)) (hx : s.opd x = .d y) (hst : ((V.d y).storable && Nat.beq y.cells.length td.size) = true) (hp : putL (en (l.getD i z)) f y.cells = some cs) (hle : LeL cs (en a')) (hi : i < l.length) (hck : chkK all o k = true) (hxx : (!ex || chkSt all o k) = true) (r : awpR ex X all pre rest Q (s.withBlk k (.data ety sz en z (l.set i a')))) : awpR ex X all (o :: pre) rest Q s := by
  obtain ⟨dst, op, ty, pos, after, g⟩ := o
  cases hop; cases hdst
  refine awpR_store rfl rfl hk (by simp only [Blk.ln, List.length_set]) hck rfl (fun s' hb _ htm => ?_) hxx r
  exact e_store X.ok ((gd_agree htm).trans hg) ht ((opd_agree (by simp [Op.operands]) htm).trans ha) (hb.bl _ _ hk) ((opd_agree (by simp [Op.operands]) htm).trans hx) hst hp hle hi
theorem stepRStoreB {td : TyD} {t ety : TypeId} {addr x : Operand} {k i : Nat} {cs cs' : List V} {xv : V} (hkk : Nat.beq (opK o.op) 1 = true) (hop : o.op = .store t addr x) (hdst : o.dst = none) (hg : gd all s o = some true) (ht : X.T t = some td) (ha : s.opd addr = .ptr k i) (hk : s.blk k = some (.box ety cs)) (hx : s.opd x = xv) (hst : (xv.storable && Nat.beq xv.cells.length td.size) = true) (hp : putL cs i xv.cells = some cs') (hck : chkK all o k = true) (hf : chkB all (.box ety cs') = true) (hxx : (!ex || chkSt all o k) = true) (r : awpR ex X all pre rest Q (s.withBlk k (.box ety cs'))) : awpR ex X all (o :: pre) rest Q s := by
  obtain ⟨dst, op, ty, pos, after, g⟩ := o
  cases hop; cases hdst
  refine awpR_store (b := .box ety cs') rfl rfl hk rfl hck hf (fun s' hb _ htm => ?_) hxx r
  have h1 : s'.opd addr = .ptr k i := (opd_agree (o := ⟨none, .store t addr x, ty, pos, after, g⟩) (all := all) (by simp [Op.operands]) htm).trans ha
  have h2 : s'.opd x = xv := (opd_agree (o := ⟨none, .store t addr x, ty, pos, after, g⟩) (all := all) (by simp [Op.operands]) htm).trans hx
  have he : evalE X.T s' none (.store t addr x) = some (none, s'.withBlk k (.box ety cs')) := by
    simp only [evalE, ht, h1, hb.bl _ _ hk, h2, hst, hp]
  exact e_eff X.ok ((gd_agree htm).trans hg) rfl (fun d e => by cases e) he
theorem stepRAlloc {d : Tmp} {e : TypeId} {ed : TyD} (hkk : Nat.beq (opK o.op) 2 = true) (hop : o.op = .alloc e) (hdst : o.dst = some d) (hgn : o.guard = none) (he : X.T e = some ed) (hst : (V.d (D.ofV ed.zero)).storable = true) (hn : s.blk d = none) (hd : dstOk X.N (some d) = true) (hK : X.K.contains d = false) (hf : chkB all (.box e (V.d (D.ofV ed.zero)).cells) = true) (r : awpR ex X all pre rest Q ((s.withBlk d (.box e (V.d (D.ofV ed.zero)).cells)).put (some d) (.ptr d 0))) : awpR ex X all (o :: pre) rest Q s := by
  obtain ⟨dst, op, ty, pos, after, g⟩ := o
  cases hop; cases hdst; cases hgn
  obtain ⟨s1, h1, h2⟩ := r
  refine ⟨s1, .alloc rfl rfl hn rfl hf (fun s' hs' => ?_) h1, h2⟩
  have hev : evalE X.T s' (some d) (.alloc e) = some (some (.ptr d 0), s'.new d (.box e (V.d (D.ofV ed.zero)).cells)) := by
    simp only [evalE, he, hst]
  have hnew : s'.new d (.box e (V.d (D.ofV ed.zero)).cells) = s'.withBlk d (.box e (V.d (D.ofV ed.zero)).cells) := by unfold St.new; rw [hs'.sub]
  rw [← hnew]
  exact e_eff X.ok (all := all) (o := ⟨some d, .alloc e, ty, pos, after, none⟩) (s := s') rfl hd (fun d' e => by cases e; exact hK) hev
theorem put_self {s : St} {d : Tmp} {x : V} (h : s.tmps d = x) : s.put (some d) x = s := by
  have : (s.put (some d) x).tmps = s.tmps := by
    funext t
    simp only [St.put]
    cases hb : Nat.beq t d with
    | true => have := Nat.eq_of_beq_eq_true hb; subst this; simp [h]
    | false => rfl
  cases s
  simp only [St.put] at this ⊢
  rw [this]
theorem stepRQ {d : Tmp} {C : Prop} {x : V} (m : Bool) (hk : Nat.beq (opK o.op) 0 = true) (hg : gd all s o = some true) (hdst : o.dst = some d) (hd : dstOk X.N (some d) = true) (hq : evalF X.T m s o.op = some (C, x)) (hC : C) (hf : chkV all x = true) (hx : (!ex || chkLd all (keyOf s o) o) = true) (k : awpR ex X all pre rest Q (s.put (some d) x)) : awpR ex X all (o :: pre) rest Q s := awpR_consQ m hg hq hC hf hx hdst hd k
theorem stepROff {d : Tmp} (hg : gd all s o = some false) (hdst : o.dst = some d) (hd : dstOk X.N (some d) = true) (hna : isAlloc o = false) (k : awpR ex X all pre rest Q (s.put (some d) (.d (.tup [])))) : awpR ex X all (o :: pre) rest Q s := awpR_cons (isMove_off hg) hna (isLoad_off hg) hdst hd (m_off hg) k
theorem stepRLit {d : Tmp} {e : TypeId} {sz len : Nat} {rows : List (List D)} (hkk : Nat.beq (opK o.op) 5 = true) (h : evalB X.T s o.op = some (e, sz, len, rows)) (hdst : o.dst = some d) (hg : gd all s o = some true) (hd : dstOk X.N (some d) = true) (k : awpR ex X all pre rest Q (s.put (some d) (.d (.sl sz (nth [] rows) 0 (iota len 0))))) : awpR ex X all (o :: pre) rest Q s := awpR_cons (isMove_k hkk (by decide)) (isAlloc_k hkk (by decide)) (isLoad_k hkk (by decide)) hdst hd (m_lit X.ok hg h) k
theorem stepRLitF {d : Tmp} {e : TypeId} {sz len : Nat} {rows : List (List D)} (hkk : Nat.beq (opK o.op) 5 = true) (hdst : o.dst = some d) (hla : (litApp d pre || litApp d rest) = true) (h : evalB X.T s o.op = some (e, sz, len, rows)) (hg : gd all s o = some true) (hd : dstOk X.N (some d) = true) (k : awpR ex X all pre rest Q (s.put (some d) (.d (.full (.sl sz (nth [] rows) 0 (iota len 0)))))) : awpR ex X all (o :: pre) rest Q s := awpR_cons (isMove_k hkk (by decide)) (isAlloc_k hkk (by decide)) (isLoad_k hkk (by decide)) hdst hd (m_litF X.ok hg h) k
theorem stepRB2S {d : Tmp} {src dst e : TypeId} {y : Operand} {sd ed dd : TyD} {l : List UInt8} {d1 : D} (hop : o.op = .convert src dst y) (hdst : o.dst = some d) (hs : X.T src = some sd) (hsd : sd.desc = .slice e) (hdt : X.T dst = some dd) (hdd : dd.desc = .string) (he : X.T e = some ed) (hed : ed.desc = .int .u8) (hg : gd all s o = some true) (hd : dstOk X.N (some d) = true) (hy : s.opd y = .d d1) (le : LeD d1 (.sl 1 eB 0 l)) (k : awpR ex X all pre rest Q (s.put (some d) (.d (.str l)))) : awpR ex X all (o :: pre) rest Q s := awpR_cons (isMove_conv hop) (isAlloc_conv hop) (isLoad_conv hop) hdst hd (m_b2s X.ok hop hg hs hsd he hed hdt hdd hy le) k
theorem stepRB2SO {d : Tmp} {src dst e : TypeId} {y : Operand} {sd ed dd : TyD} {l : List UInt8} {k o1 n : Nat} {ty ty' : TypeId} {z : UInt8} (hop : o.op = .convert src dst y) (hdst : o.dst = some d) (hs : X.T src = some sd) (hsd : sd.desc = .slice e) (hdt : X.T dst = some dd) (hdd : dd.desc = .string) (he : X.T e = some ed) (hed : ed.desc = .int .u8) (hg : gd all s o = some true) (hd : dstOk X.N (some d) = true) (hy : s.opd y = .own k o1 n ty 1) (hk : s.blk k = some (.data ty' 1 eB z l)) (r : awpR ex X all pre rest Q (s.put (some d) (.d (.str (cut o1 n l))))) : awpR ex X all (o :: pre) rest Q s := awpR_cons (isMove_conv hop) (isAlloc_conv hop) (isLoad_conv hop) hdst hd (m_b2sO X.ok hop hg hs hsd he hed hdt hdd hy hk) r
theorem stepRS2B {d : Tmp} {src dst e : TypeId} {y : Operand} {sd ed dd : TyD} {l : List UInt8} (hop : o.op = .convert src dst y) (hdst : o.dst = some d) (hs : X.T src = some sd) (hsd : sd.desc = .string) (hdt : X.T dst = some dd) (hdd : dd.desc = .slice e) (he : X.T e = some ed) (hed : ed.desc = .int .u8) (hg : gd all s o = some true) (hd : dstOk X.N (some d) = true) (hy : s.opd y = .d (.str l)) (k : awpR ex X all pre rest Q (s.put (some d) (.d (.sl 1 eB 0 l)))) : awpR ex X all (o :: pre) rest Q s := awpR_cons (isMove_conv hop) (isAlloc_conv hop) (isLoad_conv hop) hdst hd (m_s2b X.ok hop hg hs hsd hdt hdd he hed hy) k
theorem stepRAppF {d : Tmp} {α : Type} {en : α → List D} {z : α} {l l2 : List α} {td ed : TyD} {d1 d2 : D} {t : TypeId} {c : Call} {x y : Operand} {e : TypeId} (hkk : Nat.beq (opK o.op) 3 = true) (hop : o.op = .call c) (hc : c = ⟨.builtin .append, #[x, y], #[t, t]⟩) (hdst : o.dst = some d) (hx : s.opd x = .d (.full d1)) (hg : gd all s o = some true) (hd : dstOk X.N (some d) = true) (ht : X.T t = some td) (hds : td.desc = .slice e) (he : X.T e = some ed) (hz : zeroOk ed = true) (hy : s.opd y = .d d2) (le2 : LeD d2 (.sl ed.size en z l2)) (le1 : LeD d1 (.sl ed.size en z l)) (hb : l.length + l2.length ≤ 9223372036854775807 ∧ (l.length + l2.length) * ed.bytes ≤ 140737488355328) (k : awpR ex X all pre rest Q (s.put (some d) (.d (.sl ed.size en z (l ++ l2))))) : awpR ex X all (o :: pre) rest Q s := awpR_cons (isMove_call hop (by rw [hc]; rfl)) (isAlloc_call hop) (isLoad_call hop) hdst hd (m_appF' hop hc hg ht hds he hx hz hy le2 le1 hb) k
theorem awpR_guard {d : Tmp} {b : Bool} (hd : s.tmps d = .d (.bool b)) (h1 : b = true → awpR ex X all pre rest Q (s.put (some d) (.d (.bool true)))) (h2 : b = false → awpR ex X all pre rest Q (s.put (some d) (.d (.bool false)))) : awpR ex X all pre rest Q s := by
  cases b with
  | true => have := h1 rfl; rwa [put_self hd] at this
  | false => have := h2 rfl; rwa [put_self hd] at this
theorem awp_regE {ex : Bool} (id n : Nat) (ks : List Nat) {ops : List Oper} (hm : X.P.follows .mixedOrders = true) (hok : ordOk ex ops.toArray n = true) (hak : allocKeys ops.toArray = ks) (hK : (ks.all fun k => !(X.K.contains k)) = true) (h : awpR ex X ops.toArray (ops.take n) (ops.drop n) Q (s.kills ks)) : awp X (.region id ops.toArray true) Q s := by
  subst hak
  obtain ⟨s1, h1, h2⟩ := h
  exact awp_region_ord hm n hok hK h1 h2
theorem awp_regK (id n : Nat) (ks : List Nat) {ops : List Oper} (hm : X.P.follows .mixedOrders = true) (hok : ordOk false ops.toArray n = true) (hak : allocKeys ops.toArray = ks) (hK : (ks.all fun k => !(X.K.contains k)) = true) (h : awpR false X ops.toArray (ops.take n) (ops.drop n) Q (s.kills ks)) : awp X (.region id ops.toArray true) Q s := awp_regE id n ks hm hok hak hK h
theorem awp_reg (id n : Nat) {ops : List Oper} (hm : X.P.follows .mixedOrders = true) (hok : ordOk false ops.toArray n = true) (hak : allocKeys ops.toArray = []) (h : awpR false X ops.toArray (ops.take n) (ops.drop n) Q s) : awp X (.region id ops.toArray true) Q s := awp_regK id n [] hm hok hak rfl h
end

/-! ## Guards that are open -/

def guardOf (all : Array Oper) (o : Oper) : Option Tmp := match o.guard with | none => none | some (g, _) => (all[g]?).bind (·.dst)

section
variable {ex : Bool} {X : Ctx} {all : Array Oper} {Q : Exit → St → Prop} {s : St} {o : Oper} {pre rest : List Oper} {d : Tmp}
theorem gdL {b : Bool} (hg : guardOf all o = some d) (hd : s.tmps d = .d (.bool b)) (h1 : b = true → awpL X all (o :: rest) Q (s.put (some d) (.d (.bool true)))) (h2 : b = false → awpL X all (o :: rest) Q (s.put (some d) (.d (.bool false)))) : awpL X all (o :: rest) Q s := awpL_guard hd h1 h2
theorem gdR {b : Bool} (hg : guardOf all o = some d) (hd : s.tmps d = .d (.bool b)) (h1 : b = true → awpR ex X all (o :: pre) rest Q (s.put (some d) (.d (.bool true)))) (h2 : b = false → awpR ex X all (o :: pre) rest Q (s.put (some d) (.d (.bool false)))) : awpR ex X all (o :: pre) rest Q s := awpR_guard hd h1 h2
end
section
variable {ex : Bool} {X : Ctx} {all : Array Oper} {Q : Exit → St → Prop} {s : St} {o : Oper} {pre rest : List Oper} {d : Tmp} {p : Prop} [Decidable p]
theorem gdLD (hg : guardOf all o = some d) (hd : s.tmps d = .d (.bool (decide p))) (h1 : p → awpL X all (o :: rest) Q (s.put (some d) (.d (.bool true)))) (h2 : ¬ p → awpL X all (o :: rest) Q (s.put (some d) (.d (.bool false)))) : awpL X all (o :: rest) Q s := awpL_guard hd (fun e => h1 (of_decide_eq_true e)) (fun e => h2 (of_decide_eq_false e))
theorem gdLN (hg : guardOf all o = some d) (hd : s.tmps d = .d (.bool (!decide p))) (h1 : ¬ p → awpL X all (o :: rest) Q (s.put (some d) (.d (.bool true)))) (h2 : p → awpL X all (o :: rest) Q (s.put (some d) (.d (.bool false)))) : awpL X all (o :: rest) Q s := awpL_guard hd (fun e => h1 (of_decide_eq_false (by simpa using e))) (fun e => h2 (of_decide_eq_true (by simpa using e)))
theorem gdRD (hg : guardOf all o = some d) (hd : s.tmps d = .d (.bool (decide p))) (h1 : p → awpR ex X all (o :: pre) rest Q (s.put (some d) (.d (.bool true)))) (h2 : ¬ p → awpR ex X all (o :: pre) rest Q (s.put (some d) (.d (.bool false)))) : awpR ex X all (o :: pre) rest Q s := awpR_guard hd (fun e => h1 (of_decide_eq_true e)) (fun e => h2 (of_decide_eq_false e))
theorem gdRN (hg : guardOf all o = some d) (hd : s.tmps d = .d (.bool (!decide p))) (h1 : ¬ p → awpR ex X all (o :: pre) rest Q (s.put (some d) (.d (.bool true)))) (h2 : p → awpR ex X all (o :: pre) rest Q (s.put (some d) (.d (.bool false)))) : awpR ex X all (o :: pre) rest Q s := awpR_guard hd (fun e => h1 (of_decide_eq_false (by simpa using e))) (fun e => h2 (of_decide_eq_true (by simpa using e)))
end
section
variable {ex : Bool} {X : Ctx} {all : Array Oper} {Q : Exit → St → Prop} {s : St} {o : Oper} {pre rest : List Oper} {c : Call} {caps : List V} {ds' : List D} {r : D}

def CallM (X : Ctx) (all : Array Oper) (s : St) (o : Oper) (f : FuncId) (ds' : List D) (r : D) : Prop := Ret X.P f ds' (· = r) → M1 X all s o (.d r)
def CallE (X : Ctx) (all : Array Oper) (s s1 : St) (o : Oper) (f : FuncId) (ds' : List D) (r : D) : Prop := Ret X.P f ds' (· = r) → E1 X all s o (s1.put o.dst (.d r))

theorem callM_plain {f : FuncId} (hop : o.op = .call c) (hg : gd all s o = some true) (hc : calleeOf s c = some (f, caps)) (hk : (allD (c.args.toList.map s.opd ++ caps)).isSome = true) {ds : List D} (ha : allD (c.args.toList.map s.opd ++ caps) = some ds) (le : LeT ds ds') : CallM X all s o f ds' r := fun hr => m_callR hg hop hc ha le hr
theorem callM_lent {f : FuncId} (m : Bool) (hop : o.op = .call c) (hg : gd all s o = some true) (hc : calleeOf s c = some (f, caps)) (hk2 : (allD (c.args.toList.map s.opd ++ caps)).isSome = false) (hk : (V.asDs m s (c.args.toList.map s.opd ++ caps)).isSome = true) {C : Prop} {ds : List D} (ha : V.asDs m s (c.args.toList.map s.opd ++ caps) = some (C, ds)) (le : LeT ds ds') (hn : r.noRef = true) (hC : C) : CallM X all s o f ds' r := fun hr => m_callB hg hop hc m ha le hr hC hn
theorem callE_of {f : FuncId} (hd : dstOk X.N o.dst = true) (h : CallM X all s o f ds' r) : CallE X all s s o f ds' r := fun hr => (h hr).e1 hd
theorem callE_frz {f : FuncId} {s1 : St} (hop : o.op = .call c) (hc : calleeOf s c = some (f, caps)) (hkk : (ownKey (c.args.toList.map s.opd ++ caps)).isSome = true) {k : Nat} {b : Blk} (hk : ownKey (c.args.toList.map s.opd ++ caps) = some k) (hb : s.blk k = some b) (h : CallE X all (s.sub k (some b)) s1 o f ds' r) : CallE X all s s1 o f ds' r := fun hr => e_frz k hb (h hr)

def calleeIs (s : St) (op : Op) (f : FuncId) : Bool := match op with | .call c => (match calleeOf s c with | some (g, _) => Nat.beq g f | none => false) | _ => false
theorem cl {s1 : St} {d : Tmp} (f : FuncId) (hcf : calleeIs s o.op f = true) (hop : o.op = .call c) (hc : calleeOf s c = some (f, caps)) (hdst : o.dst = some d) (h : CallE X all s s1 o f ds' r := by
  first
  | exact Go.Vw.callE_of rfl (Go.Vw.callM_plain rfl rfl rfl Go.Vw.tt rfl Go.Vw.leT)
  | exact Go.Vw.callE_of rfl (Go.Vw.callM_lent true rfl rfl rfl Go.Vw.ff Go.Vw.tt rfl Go.Vw.leT rfl Go.Vw.sc)
  | exact Go.Vw.callE_of rfl (Go.Vw.callM_lent false rfl rfl rfl Go.Vw.ff Go.Vw.tt rfl Go.Vw.leT rfl Go.Vw.sc)
  | exact Go.Vw.callE_frz rfl rfl Go.Vw.tt rfl rfl (Go.Vw.callE_of rfl (Go.Vw.callM_plain rfl rfl rfl Go.Vw.tt rfl Go.Vw.leT))
  | exact Go.Vw.callE_frz rfl rfl Go.Vw.tt rfl rfl (Go.Vw.callE_frz rfl rfl Go.Vw.tt rfl rfl (Go.Vw.callE_of rfl (Go.Vw.callM_plain rfl rfl rfl Go.Vw.tt rfl Go.Vw.leT)))
  | fail) (hr : Ret X.P f ds' (· = r)) (k : awpL X all rest Q (s1.put (some d) (.d r))) : awpL X all (o :: rest) Q s := by
  rw [← hdst] at k
  exact awpL_step (h hr) k
theorem clR {d : Tmp} (f : FuncId) (hcf : calleeIs s o.op f = true) (hop : o.op = .call c) (hc : calleeOf s c = some (f, caps)) (hdst : o.dst = some d) (h : CallM X all s o f ds' r := by
  first
  | exact Go.Vw.callM_plain rfl rfl rfl Go.Vw.tt rfl Go.Vw.leT
  | exact Go.Vw.callM_lent true rfl rfl rfl Go.Vw.ff Go.Vw.tt rfl Go.Vw.leT rfl Go.Vw.sc
  | exact Go.Vw.callM_lent false rfl rfl rfl Go.Vw.ff Go.Vw.tt rfl Go.Vw.leT rfl Go.Vw.sc
  | fail) (hd : dstOk X.N (some d) = true := by exact rfl) (hr : Ret X.P f ds' (· = r)) (k : awpR ex X all pre rest Q (s.put (some d) (.d r))) : awpR ex X all (o :: pre) rest Q s :=
  awpR_cons (isMove_call hop (callee_reg hc)) (isAlloc_call hop) (isLoad_call hop) hdst hd (h hr) k
end

theorem fin {T : TypeId → Option TyD} {fn : Func} {R : D → Prop} {s : St} (m : Bool) {C : Prop} {r : D} (hd : s.dfs = []) (h : resOf T m s fn.results.toList = some (C, r)) (hR : R r) (hC : C := by exact Go.Vw.sc) : retPost T fn R .ret s := ⟨hd, m, C, r, r, h, hC, LeD.refl _, hR⟩
section
variable {T : TypeId → Option TyD} {fn : Func} {x : D} {s : St} {C : Prop} {r : D}
theorem finE (m : Bool) (hd : s.dfs = []) (h : resOf T m s fn.results.toList = some (C, r)) (hC : C) (hR : r = x) : retPost T fn (fun y => y = x) .ret s := ⟨hd, m, C, r, x, h, hC, hR ▸ LeD.refl _, rfl⟩
theorem finLe (m : Bool) (hd : s.dfs = []) (h : resOf T m s fn.results.toList = some (C, r)) (hC : C) (hR : LeD r x) : retPost T fn (fun y => y = x) .ret s := ⟨hd, m, C, r, x, h, hC, hR, rfl⟩
theorem finF (m : Bool) (hd : s.dfs = []) {sz : Nat} {α : Type} {e : α → List D} {z : α} {l l' : List α} (h : resOf T m s fn.results.toList = some (C, .sl sz e z (cut 0 l'.length l'))) (hC : C) (hR : l' = l) : retPost T fn (fun y => y = .sl sz e z l) .ret s := by
  subst hR; exact finLe m hd h hC LeD.full
theorem finC (m : Bool) (hd : s.dfs = []) {sz n : Nat} {α : Type} {e : α → List D} {z : α} {l l' : List α} (h : resOf T m s fn.results.toList = some (C, .sl sz e z (cut 0 n l'))) (hC : C) (hn : n = l'.length) (hR : l' = l) : retPost T fn (fun y => y = .sl sz e z l) .ret s := by
  subst hR; exact finLe m hd h hC (LeD.cutAll hn)
theorem finT (m : Bool) (hd : s.dfs = []) {rs ys : List D} (h : resOf T m s fn.results.toList = some (C, .tup rs)) (hC : C) (hR : LeT rs ys) : retPost T fn (fun y => y = .tup ys) .ret s := finLe m hd h hC (LeD.tup hR)
theorem finN (hd : s.dfs = []) (h : resOf T true s fn.results.toList = some (C, .nils)) (hC : C) {sz : Nat} {α : Type} {e : α → List D} {z : α} {l : List α} (hR : l = []) : retPost T fn (fun y => y = .sl sz e z l) .ret s := by
  subst hR; exact finLe true hd h hC LeD.nils
theorem finL (m : Bool) (hd : s.dfs = []) {sz n : Nat} {rows : List (List D)} (h : resOf T m s fn.results.toList = some (C, .sl sz (nth [] rows) 0 (iota n 0))) (hC : C) (hn : rows.length = n) {α : Type} {e : α → List D} {z : α} {l l' : List α} (hl : LeR sz rows e l') (hR : l' = l) : retPost T fn (fun y => y = .sl sz e z l) .ret s := by
  subst hR; exact finLe m hd h hC (LeD.lit hn hl)
end

/-! ## Short words: ways and ends -/

section
variable {ex : Bool} {X : Ctx} {all : Array Oper} {Q : Exit → St → Prop} {s : St} {o : Oper} {pre rest : List Oper} {G G1 G2 : Prop}
theorem finG {T : TypeId → Option TyD} {fn : Func} {R : D → Prop} {e : Exit} (k : G) (h : G → retPost T fn R e s := by
  first
  | exact Go.Vw.finF true rfl rfl Go.Vw.sc
  | exact Go.Vw.finF false rfl rfl Go.Vw.sc
  | exact Go.Vw.finC false rfl rfl Go.Vw.sc Go.Vw.sc
  | exact Go.Vw.finN rfl rfl Go.Vw.sc
  | exact Go.Vw.finL true rfl rfl Go.Vw.sc rfl (Go.Vw.LeR.cons rfl Go.Vw.leL Go.Vw.LeR.nil)
  | exact Go.Vw.finE true rfl rfl Go.Vw.sc
  | exact Go.Vw.finE false rfl rfl Go.Vw.sc
  | fail) : retPost T fn R e s := h k
theorem finTG {T : TypeId → Option TyD} {fn : Func} {R : D → Prop} {e : Exit} (k : G) (h : G → retPost T fn R e s := by
  first
  | exact Go.Vw.finF true rfl rfl Go.Vw.sc
  | exact Go.Vw.finF false rfl rfl Go.Vw.sc
  | exact Go.Vw.finC false rfl rfl Go.Vw.sc Go.Vw.sc
  | exact Go.Vw.finN rfl rfl Go.Vw.sc
  | exact Go.Vw.finL true rfl rfl Go.Vw.sc rfl (Go.Vw.LeR.cons rfl Go.Vw.leL Go.Vw.LeR.nil)
  | exact Go.Vw.finT true rfl rfl Go.Vw.sc
  | exact Go.Vw.finT false rfl rfl Go.Vw.sc
  | exact Go.Vw.finE true rfl rfl Go.Vw.sc
  | exact Go.Vw.finE false rfl rfl Go.Vw.sc
  | fail) : retPost T fn R e s := h k
end
end Go.Vw

/-
  The types of the translation, as a table, and that the program has them so. Conditions: none.
-/
set_option maxRecDepth 100000
namespace Go.Proofs.YtfnonogemgnlhaaDoor
open Go.Vw
def T : TypeId → Option TyD
  | 2 => some ⟨.int .i64, 1, 8, .int .i64 0⟩
  | 3 => some ⟨.int .i64, 1, 8, .int .i64 0⟩
  | 4 => some ⟨.bool, 1, 1, .bool false⟩
  | 5 => some ⟨.int .u8, 1, 1, .int .u8 0⟩
  | 6 => some ⟨.int .u8, 1, 1, .int .u8 0⟩
  | 9 => some ⟨.string, 1, 16, .string .empty⟩
  | 10 => some ⟨.string, 1, 16, .string .empty⟩
  | 11 => some ⟨.string, 1, 16, .string .empty⟩
  | 12 => some ⟨.int .u64, 1, 8, .int .u64 0⟩
  | 15 => some ⟨.pointer 109, 1, 8, .pointer none⟩
  | 16 => some ⟨.pointer 112, 1, 8, .pointer none⟩
  | 17 => some ⟨.pointer 119, 1, 8, .pointer none⟩
  | 21 => some ⟨.int .i32, 1, 4, .int .i32 0⟩
  | 23 => some ⟨.slice 38, 1, 24, .slice none 0 0⟩
  | 24 => some ⟨.struct #[⟨ "Response", 9, 0, false, "", "", 0⟩, ⟨ "Right", 23, 1, false, "", "", 16⟩], 2, 40, .agg #[.string .empty, .slice none 0 0]⟩
  | 25 => some ⟨.struct #[⟨ "Response", 9, 0, false, "", "", 0⟩, ⟨ "Right", 23, 1, false, "", "", 16⟩], 2, 40, .agg #[.string .empty, .slice none 0 0]⟩
  | 26 => some ⟨.int .i64, 1, 8, .int .i64 0⟩
  | 37 => some ⟨.struct #[⟨ "Op", 3, 0, false, "", "", 0⟩, ⟨ "Name", 9, 1, false, "", "", 8⟩, ⟨ "Num", 3, 2, false, "", "", 24⟩], 3, 32, .agg #[.int .i64 0, .string .empty, .int .i64 0]⟩
  | 38 => some ⟨.struct #[⟨ "Op", 3, 0, false, "", "", 0⟩, ⟨ "Name", 9, 1, false, "", "", 8⟩, ⟨ "Num", 3, 2, false, "", "", 24⟩], 3, 32, .agg #[.int .i64 0, .string .empty, .int .i64 0]⟩
  | 40 => some ⟨.pointer 42, 1, 8, .pointer none⟩
  | 41 => some ⟨.struct #[⟨ "text", 9, 0, false, "", "robuststats/formula", 0⟩, ⟨ "from", 3, 1, false, "", "robuststats/formula", 16⟩, ⟨ "end", 3, 2, false, "", "robuststats/formula", 24⟩], 3, 32, .agg #[.string .empty, .int .i64 0, .int .i64 0]⟩
  | 42 => some ⟨.struct #[⟨ "text", 9, 0, false, "", "robuststats/formula", 0⟩, ⟨ "from", 3, 1, false, "", "robuststats/formula", 16⟩, ⟨ "end", 3, 2, false, "", "robuststats/formula", 24⟩], 3, 32, .agg #[.string .empty, .int .i64 0, .int .i64 0]⟩
  | 43 => some ⟨.struct #[⟨ "at", 3, 0, false, "", "robuststats/formula", 0⟩, ⟨ "e", 26, 1, false, "", "robuststats/formula", 8⟩], 2, 16, .agg #[.int .i64 0, .int .i64 0]⟩
  | 44 => some ⟨.struct #[⟨ "at", 3, 0, false, "", "robuststats/formula", 0⟩, ⟨ "e", 26, 1, false, "", "robuststats/formula", 8⟩], 2, 16, .agg #[.int .i64 0, .int .i64 0]⟩
  | 47 => some ⟨.pointer 49, 1, 8, .pointer none⟩
  | 48 => some ⟨.struct #[⟨ "text", 9, 0, false, "", "robuststats/robuststatsref09", 0⟩, ⟨ "at", 3, 1, false, "", "robuststats/robuststatsref09", 16⟩, ⟨ "err", 26, 2, false, "", "robuststats/robuststatsref09", 24⟩, ⟨ "place", 3, 3, false, "", "robuststats/robuststatsref09", 32⟩], 4, 40, .agg #[.string .empty, .int .i64 0, .int .i64 0, .int .i64 0]⟩
  | 49 => some ⟨.struct #[⟨ "text", 9, 0, false, "", "robuststats/robuststatsref09", 0⟩, ⟨ "at", 3, 1, false, "", "robuststats/robuststatsref09", 16⟩, ⟨ "err", 26, 2, false, "", "robuststats/robuststatsref09", 24⟩, ⟨ "place", 3, 3, false, "", "robuststats/robuststatsref09", 32⟩], 4, 40, .agg #[.string .empty, .int .i64 0, .int .i64 0, .int .i64 0]⟩
  | 55 => some ⟨.pointer 57, 1, 8, .pointer none⟩
  | 56 => some ⟨.struct #[⟨ "right", 23, 0, false, "", "robuststats/formula", 0⟩, ⟨ "at", 3, 1, false, "", "robuststats/formula", 24⟩], 2, 32, .agg #[.slice none 0 0, .int .i64 0]⟩
  | 57 => some ⟨.struct #[⟨ "right", 23, 0, false, "", "robuststats/formula", 0⟩, ⟨ "at", 3, 1, false, "", "robuststats/formula", 24⟩], 2, 32, .agg #[.slice none 0 0, .int .i64 0]⟩
  | 68 => some ⟨.array 10 9, 10, 160, .agg #[.string .empty, .string .empty, .string .empty, .string .empty, .string .empty, .string .empty, .string .empty, .string .empty, .string .empty, .string .empty]⟩
  | 71 => some ⟨.slice 9, 1, 24, .slice none 0 0⟩
  | 73 => some ⟨.slice 5, 1, 24, .slice none 0 0⟩
  | 76 => some ⟨.slice 23, 1, 24, .slice none 0 0⟩
  | 77 => some ⟨.pointer 79, 1, 8, .pointer none⟩
  | 78 => some ⟨.struct #[⟨ "addr", 77, 0, false, "", "strings", 0⟩, ⟨ "buf", 73, 1, false, "", "strings", 8⟩], 2, 32, .agg #[.pointer none, .slice none 0 0]⟩
  | 79 => some ⟨.struct #[⟨ "addr", 77, 0, false, "", "strings", 0⟩, ⟨ "buf", 73, 1, false, "", "strings", 8⟩], 2, 32, .agg #[.pointer none, .slice none 0 0]⟩
  | 88 => some ⟨.pointer 5, 1, 8, .pointer none⟩
  | 89 => some ⟨.array 24 5, 24, 24, .agg #[.int .u8 0, .int .u8 0, .int .u8 0, .int .u8 0, .int .u8 0, .int .u8 0, .int .u8 0, .int .u8 0, .int .u8 0, .int .u8 0, .int .u8 0, .int .u8 0, .int .u8 0, .int .u8 0, .int .u8 0, .int .u8 0, .int .u8 0, .int .u8 0, .int .u8 0, .int .u8 0, .int .u8 0, .int .u8 0, .int .u8 0, .int .u8 0]⟩
  | 90 => some ⟨.int .u64, 1, 8, .int .u64 0⟩
  | 99 => some ⟨.array 20 90, 20, 160, .agg #[.int .u64 0, .int .u64 0, .int .u64 0, .int .u64 0, .int .u64 0, .int .u64 0, .int .u64 0, .int .u64 0, .int .u64 0, .int .u64 0, .int .u64 0, .int .u64 0, .int .u64 0, .int .u64 0, .int .u64 0, .int .u64 0, .int .u64 0, .int .u64 0, .int .u64 0, .int .u64 0]⟩
  | 100 => some ⟨.int .u32, 1, 4, .int .u32 0⟩
  | 101 => some ⟨.array 65 5, 65, 65, .agg #[.int .u8 0, .int .u8 0, .int .u8 0, .int .u8 0, .int .u8 0, .int .u8 0, .int .u8 0, .int .u8 0, .int .u8 0, .int .u8 0, .int .u8 0, .int .u8 0, .int .u8 0, .int .u8 0, .int .u8 0, .int .u8 0, .int .u8 0, .int .u8 0, .int .u8 0, .int .u8 0, .int .u8 0, .int .u8 0, .int .u8 0, .int .u8 0, .int .u8 0, .int .u8 0, .int .u8 0, .int .u8 0, .int .u8 0, .int .u8 0, .int .u8 0, .int .u8 0, .int .u8 0, .int .u8 0, .int .u8 0, .int .u8 0, .int .u8 0, .int .u8 0, .int .u8 0, .int .u8 0, .int .u8 0, .int .u8 0, .int .u8 0, .int .u8 0, .int .u8 0, .int .u8 0, .int .u8 0, .int .u8 0, .int .u8 0, .int .u8 0, .int .u8 0, .int .u8 0, .int .u8 0, .int .u8 0, .int .u8 0, .int .u8 0, .int .u8 0, .int .u8 0, .int .u8 0, .int .u8 0, .int .u8 0, .int .u8 0, .int .u8 0, .int .u8 0, .int .u8 0]⟩
  | 103 => some ⟨.int .u64, 1, 8, .int .u64 0⟩
  | 106 => some ⟨.array 32 5, 32, 32, .agg #[.int .u8 0, .int .u8 0, .int .u8 0, .int .u8 0, .int .u8 0, .int .u8 0, .int .u8 0, .int .u8 0, .int .u8 0, .int .u8 0, .int .u8 0, .int .u8 0, .int .u8 0, .int .u8 0, .int .u8 0, .int .u8 0, .int .u8 0, .int .u8 0, .int .u8 0, .int .u8 0, .int .u8 0, .int .u8 0, .int .u8 0, .int .u8 0, .int .u8 0, .int .u8 0, .int .u8 0, .int .u8 0, .int .u8 0, .int .u8 0, .int .u8 0, .int .u8 0]⟩
  | 107 => some ⟨.array 64 5, 64, 64, .agg #[.int .u8 0, .int .u8 0, .int .u8 0, .int .u8 0, .int .u8 0, .int .u8 0, .int .u8 0, .int .u8 0, .int .u8 0, .int .u8 0, .int .u8 0, .int .u8 0, .int .u8 0, .int .u8 0, .int .u8 0, .int .u8 0, .int .u8 0, .int .u8 0, .int .u8 0, .int .u8 0, .int .u8 0, .int .u8 0, .int .u8 0, .int .u8 0, .int .u8 0, .int .u8 0, .int .u8 0, .int .u8 0, .int .u8 0, .int .u8 0, .int .u8 0, .int .u8 0, .int .u8 0, .int .u8 0, .int .u8 0, .int .u8 0, .int .u8 0, .int .u8 0, .int .u8 0, .int .u8 0, .int .u8 0, .int .u8 0, .int .u8 0, .int .u8 0, .int .u8 0, .int .u8 0, .int .u8 0, .int .u8 0, .int .u8 0, .int .u8 0, .int .u8 0, .int .u8 0, .int .u8 0, .int .u8 0, .int .u8 0, .int .u8 0, .int .u8 0, .int .u8 0, .int .u8 0, .int .u8 0, .int .u8 0, .int .u8 0, .int .u8 0, .int .u8 0]⟩
  | 110 => some ⟨.array 0 16, 0, 0, .agg #[]⟩
  | 113 => some ⟨.int .u8, 1, 1, .int .u8 0⟩
  | 114 => some ⟨.int .u8, 1, 1, .int .u8 0⟩
  | 116 => some ⟨.int .i32, 1, 4, .int .i32 0⟩
  | 117 => some ⟨.int .i32, 1, 4, .int .i32 0⟩
  | _ => none
theorem ty2 : tyOf Tryd.prog 2 = some ⟨.int .i64, 1, 8, .int .i64 0⟩ := by kernel_rfl
theorem ty3 : tyOf Tryd.prog 3 = some ⟨.int .i64, 1, 8, .int .i64 0⟩ := by kernel_rfl
theorem ty4 : tyOf Tryd.prog 4 = some ⟨.bool, 1, 1, .bool false⟩ := by kernel_rfl
theorem ty5 : tyOf Tryd.prog 5 = some ⟨.int .u8, 1, 1, .int .u8 0⟩ := by kernel_rfl
theorem ty6 : tyOf Tryd.prog 6 = some ⟨.int .u8, 1, 1, .int .u8 0⟩ := by kernel_rfl
theorem ty9 : tyOf Tryd.prog 9 = some ⟨.string, 1, 16, .string .empty⟩ := by kernel_rfl
theorem ty10 : tyOf Tryd.prog 10 = some ⟨.string, 1, 16, .string .empty⟩ := by kernel_rfl
theorem ty11 : tyOf Tryd.prog 11 = some ⟨.string, 1, 16, .string .empty⟩ := by kernel_rfl
theorem ty12 : tyOf Tryd.prog 12 = some ⟨.int .u64, 1, 8, .int .u64 0⟩ := by kernel_rfl
theorem ty15 : tyOf Tryd.prog 15 = some ⟨.pointer 109, 1, 8, .pointer none⟩ := by kernel_rfl
theorem ty16 : tyOf Tryd.prog 16 = some ⟨.pointer 112, 1, 8, .pointer none⟩ := by kernel_rfl
theorem ty17 : tyOf Tryd.prog 17 = some ⟨.pointer 119, 1, 8, .pointer none⟩ := by kernel_rfl
theorem ty21 : tyOf Tryd.prog 21 = some ⟨.int .i32, 1, 4, .int .i32 0⟩ := by kernel_rfl
theorem ty23 : tyOf Tryd.prog 23 = some ⟨.slice 38, 1, 24, .slice none 0 0⟩ := by kernel_rfl
theorem ty24 : tyOf Tryd.prog 24 = some ⟨.struct #[⟨ "Response", 9, 0, false, "", "", 0⟩, ⟨ "Right", 23, 1, false, "", "", 16⟩], 2, 40, .agg #[.string .empty, .slice none 0 0]⟩ := by kernel_rfl
theorem ty25 : tyOf Tryd.prog 25 = some ⟨.struct #[⟨ "Response", 9, 0, false, "", "", 0⟩, ⟨ "Right", 23, 1, false, "", "", 16⟩], 2, 40, .agg #[.string .empty, .slice none 0 0]⟩ := by kernel_rfl
theorem ty26 : tyOf Tryd.prog 26 = some ⟨.int .i64, 1, 8, .int .i64 0⟩ := by kernel_rfl
theorem ty37 : tyOf Tryd.prog 37 = some ⟨.struct #[⟨ "Op", 3, 0, false, "", "", 0⟩, ⟨ "Name", 9, 1, false, "", "", 8⟩, ⟨ "Num", 3, 2, false, "", "", 24⟩], 3, 32, .agg #[.int .i64 0, .string .empty, .int .i64 0]⟩ := by kernel_rfl
theorem ty38 : tyOf Tryd.prog 38 = some ⟨.struct #[⟨ "Op", 3, 0, false, "", "", 0⟩, ⟨ "Name", 9, 1, false, "", "", 8⟩, ⟨ "Num", 3, 2, false, "", "", 24⟩], 3, 32, .agg #[.int .i64 0, .string .empty, .int .i64 0]⟩ := by kernel_rfl
theorem ty40 : tyOf Tryd.prog 40 = some ⟨.pointer 42, 1, 8, .pointer none⟩ := by kernel_rfl
theorem ty41 : tyOf Tryd.prog 41 = some ⟨.struct #[⟨ "text", 9, 0, false, "", "robuststats/formula", 0⟩, ⟨ "from", 3, 1, false, "", "robuststats/formula", 16⟩, ⟨ "end", 3, 2, false, "", "robuststats/formula", 24⟩], 3, 32, .agg #[.string .empty, .int .i64 0, .int .i64 0]⟩ := by kernel_rfl
theorem ty42 : tyOf Tryd.prog 42 = some ⟨.struct #[⟨ "text", 9, 0, false, "", "robuststats/formula", 0⟩, ⟨ "from", 3, 1, false, "", "robuststats/formula", 16⟩, ⟨ "end", 3, 2, false, "", "robuststats/formula", 24⟩], 3, 32, .agg #[.string .empty, .int .i64 0, .int .i64 0]⟩ := by kernel_rfl
theorem ty43 : tyOf Tryd.prog 43 = some ⟨.struct #[⟨ "at", 3, 0, false, "", "robuststats/formula", 0⟩, ⟨ "e", 26, 1, false, "", "robuststats/formula", 8⟩], 2, 16, .agg #[.int .i64 0, .int .i64 0]⟩ := by kernel_rfl
theorem ty44 : tyOf Tryd.prog 44 = some ⟨.struct #[⟨ "at", 3, 0, false, "", "robuststats/formula", 0⟩, ⟨ "e", 26, 1, false, "", "robuststats/formula", 8⟩], 2, 16, .agg #[.int .i64 0, .int .i64 0]⟩ := by kernel_rfl
theorem ty47 : tyOf Tryd.prog 47 = some ⟨.pointer 49, 1, 8, .pointer none⟩ := by kernel_rfl
theorem ty48 : tyOf Tryd.prog 48 = some ⟨.struct #[⟨ "text", 9, 0, false, "", "robuststats/robuststatsref09", 0⟩, ⟨ "at", 3, 1, false, "", "robuststats/robuststatsref09", 16⟩, ⟨ "err", 26, 2, false, "", "robuststats/robuststatsref09", 24⟩, ⟨ "place", 3, 3, false, "", "robuststats/robuststatsref09", 32⟩], 4, 40, .agg #[.string .empty, .int .i64 0, .int .i64 0, .int .i64 0]⟩ := by kernel_rfl
theorem ty49 : tyOf Tryd.prog 49 = some ⟨.struct #[⟨ "text", 9, 0, false, "", "robuststats/robuststatsref09", 0⟩, ⟨ "at", 3, 1, false, "", "robuststats/robuststatsref09", 16⟩, ⟨ "err", 26, 2, false, "", "robuststats/robuststatsref09", 24⟩, ⟨ "place", 3, 3, false, "", "robuststats/robuststatsref09", 32⟩], 4, 40, .agg #[.string .empty, .int .i64 0, .int .i64 0, .int .i64 0]⟩ := by kernel_rfl
theorem ty55 : tyOf Tryd.prog 55 = some ⟨.pointer 57, 1, 8, .pointer none⟩ := by kernel_rfl
theorem ty56 : tyOf Tryd.prog 56 = some ⟨.struct #[⟨ "right", 23, 0, false, "", "robuststats/formula", 0⟩, ⟨ "at", 3, 1, false, "", "robuststats/formula", 24⟩], 2, 32, .agg #[.slice none 0 0, .int .i64 0]⟩ := by kernel_rfl
theorem ty57 : tyOf Tryd.prog 57 = some ⟨.struct #[⟨ "right", 23, 0, false, "", "robuststats/formula", 0⟩, ⟨ "at", 3, 1, false, "", "robuststats/formula", 24⟩], 2, 32, .agg #[.slice none 0 0, .int .i64 0]⟩ := by kernel_rfl
theorem ty68 : tyOf Tryd.prog 68 = some ⟨.array 10 9, 10, 160, .agg #[.string .empty, .string .empty, .string .empty, .string .empty, .string .empty, .string .empty, .string .empty, .string .empty, .string .empty, .string .empty]⟩ := by kernel_rfl
theorem ty71 : tyOf Tryd.prog 71 = some ⟨.slice 9, 1, 24, .slice none 0 0⟩ := by kernel_rfl
theorem ty73 : tyOf Tryd.prog 73 = some ⟨.slice 5, 1, 24, .slice none 0 0⟩ := by kernel_rfl
theorem ty76 : tyOf Tryd.prog 76 = some ⟨.slice 23, 1, 24, .slice none 0 0⟩ := by kernel_rfl
theorem ty77 : tyOf Tryd.prog 77 = some ⟨.pointer 79, 1, 8, .pointer none⟩ := by kernel_rfl
theorem ty78 : tyOf Tryd.prog 78 = some ⟨.struct #[⟨ "addr", 77, 0, false, "", "strings", 0⟩, ⟨ "buf", 73, 1, false, "", "strings", 8⟩], 2, 32, .agg #[.pointer none, .slice none 0 0]⟩ := by kernel_rfl
theorem ty79 : tyOf Tryd.prog 79 = some ⟨.struct #[⟨ "addr", 77, 0, false, "", "strings", 0⟩, ⟨ "buf", 73, 1, false, "", "strings", 8⟩], 2, 32, .agg #[.pointer none, .slice none 0 0]⟩ := by kernel_rfl
theorem ty88 : tyOf Tryd.prog 88 = some ⟨.pointer 5, 1, 8, .pointer none⟩ := by kernel_rfl
theorem ty89 : tyOf Tryd.prog 89 = some ⟨.array 24 5, 24, 24, .agg #[.int .u8 0, .int .u8 0, .int .u8 0, .int .u8 0, .int .u8 0, .int .u8 0, .int .u8 0, .int .u8 0, .int .u8 0, .int .u8 0, .int .u8 0, .int .u8 0, .int .u8 0, .int .u8 0, .int .u8 0, .int .u8 0, .int .u8 0, .int .u8 0, .int .u8 0, .int .u8 0, .int .u8 0, .int .u8 0, .int .u8 0, .int .u8 0]⟩ := by kernel_rfl
theorem ty90 : tyOf Tryd.prog 90 = some ⟨.int .u64, 1, 8, .int .u64 0⟩ := by kernel_rfl
theorem ty99 : tyOf Tryd.prog 99 = some ⟨.array 20 90, 20, 160, .agg #[.int .u64 0, .int .u64 0, .int .u64 0, .int .u64 0, .int .u64 0, .int .u64 0, .int .u64 0, .int .u64 0, .int .u64 0, .int .u64 0, .int .u64 0, .int .u64 0, .int .u64 0, .int .u64 0, .int .u64 0, .int .u64 0, .int .u64 0, .int .u64 0, .int .u64 0, .int .u64 0]⟩ := by kernel_rfl
theorem ty100 : tyOf Tryd.prog 100 = some ⟨.int .u32, 1, 4, .int .u32 0⟩ := by kernel_rfl
theorem ty101 : tyOf Tryd.prog 101 = some ⟨.array 65 5, 65, 65, .agg #[.int .u8 0, .int .u8 0, .int .u8 0, .int .u8 0, .int .u8 0, .int .u8 0, .int .u8 0, .int .u8 0, .int .u8 0, .int .u8 0, .int .u8 0, .int .u8 0, .int .u8 0, .int .u8 0, .int .u8 0, .int .u8 0, .int .u8 0, .int .u8 0, .int .u8 0, .int .u8 0, .int .u8 0, .int .u8 0, .int .u8 0, .int .u8 0, .int .u8 0, .int .u8 0, .int .u8 0, .int .u8 0, .int .u8 0, .int .u8 0, .int .u8 0, .int .u8 0, .int .u8 0, .int .u8 0, .int .u8 0, .int .u8 0, .int .u8 0, .int .u8 0, .int .u8 0, .int .u8 0, .int .u8 0, .int .u8 0, .int .u8 0, .int .u8 0, .int .u8 0, .int .u8 0, .int .u8 0, .int .u8 0, .int .u8 0, .int .u8 0, .int .u8 0, .int .u8 0, .int .u8 0, .int .u8 0, .int .u8 0, .int .u8 0, .int .u8 0, .int .u8 0, .int .u8 0, .int .u8 0, .int .u8 0, .int .u8 0, .int .u8 0, .int .u8 0, .int .u8 0]⟩ := by kernel_rfl
theorem ty103 : tyOf Tryd.prog 103 = some ⟨.int .u64, 1, 8, .int .u64 0⟩ := by kernel_rfl
theorem ty106 : tyOf Tryd.prog 106 = some ⟨.array 32 5, 32, 32, .agg #[.int .u8 0, .int .u8 0, .int .u8 0, .int .u8 0, .int .u8 0, .int .u8 0, .int .u8 0, .int .u8 0, .int .u8 0, .int .u8 0, .int .u8 0, .int .u8 0, .int .u8 0, .int .u8 0, .int .u8 0, .int .u8 0, .int .u8 0, .int .u8 0, .int .u8 0, .int .u8 0, .int .u8 0, .int .u8 0, .int .u8 0, .int .u8 0, .int .u8 0, .int .u8 0, .int .u8 0, .int .u8 0, .int .u8 0, .int .u8 0, .int .u8 0, .int .u8 0]⟩ := by kernel_rfl
theorem ty107 : tyOf Tryd.prog 107 = some ⟨.array 64 5, 64, 64, .agg #[.int .u8 0, .int .u8 0, .int .u8 0, .int .u8 0, .int .u8 0, .int .u8 0, .int .u8 0, .int .u8 0, .int .u8 0, .int .u8 0, .int .u8 0, .int .u8 0, .int .u8 0, .int .u8 0, .int .u8 0, .int .u8 0, .int .u8 0, .int .u8 0, .int .u8 0, .int .u8 0, .int .u8 0, .int .u8 0, .int .u8 0, .int .u8 0, .int .u8 0, .int .u8 0, .int .u8 0, .int .u8 0, .int .u8 0, .int .u8 0, .int .u8 0, .int .u8 0, .int .u8 0, .int .u8 0, .int .u8 0, .int .u8 0, .int .u8 0, .int .u8 0, .int .u8 0, .int .u8 0, .int .u8 0, .int .u8 0, .int .u8 0, .int .u8 0, .int .u8 0, .int .u8 0, .int .u8 0, .int .u8 0, .int .u8 0, .int .u8 0, .int .u8 0, .int .u8 0, .int .u8 0, .int .u8 0, .int .u8 0, .int .u8 0, .int .u8 0, .int .u8 0, .int .u8 0, .int .u8 0, .int .u8 0, .int .u8 0, .int .u8 0, .int .u8 0]⟩ := by kernel_rfl
theorem ty110 : tyOf Tryd.prog 110 = some ⟨.array 0 16, 0, 0, .agg #[]⟩ := by kernel_rfl
theorem ty113 : tyOf Tryd.prog 113 = some ⟨.int .u8, 1, 1, .int .u8 0⟩ := by kernel_rfl
theorem ty114 : tyOf Tryd.prog 114 = some ⟨.int .u8, 1, 1, .int .u8 0⟩ := by kernel_rfl
theorem ty116 : tyOf Tryd.prog 116 = some ⟨.int .i32, 1, 4, .int .i32 0⟩ := by kernel_rfl
theorem ty117 : tyOf Tryd.prog 117 = some ⟨.int .i32, 1, 4, .int .i32 0⟩ := by kernel_rfl
theorem tab : TabOk Tryd.prog T := by
  intro t d h
  unfold T at h
  split at h
  · cases h; exact TyOk.of ty2
  · cases h; exact TyOk.of ty3
  · cases h; exact TyOk.of ty4
  · cases h; exact TyOk.of ty5
  · cases h; exact TyOk.of ty6
  · cases h; exact TyOk.of ty9
  · cases h; exact TyOk.of ty10
  · cases h; exact TyOk.of ty11
  · cases h; exact TyOk.of ty12
  · cases h; exact TyOk.of ty15
  · cases h; exact TyOk.of ty16
  · cases h; exact TyOk.of ty17
  · cases h; exact TyOk.of ty21
  · cases h; exact TyOk.of ty23
  · cases h; exact TyOk.of ty24
  · cases h; exact TyOk.of ty25
  · cases h; exact TyOk.of ty26
  · cases h; exact TyOk.of ty37
  · cases h; exact TyOk.of ty38
  · cases h; exact TyOk.of ty40
  · cases h; exact TyOk.of ty41
  · cases h; exact TyOk.of ty42
  · cases h; exact TyOk.of ty43
  · cases h; exact TyOk.of ty44
  · cases h; exact TyOk.of ty47
  · cases h; exact TyOk.of ty48
  · cases h; exact TyOk.of ty49
  · cases h; exact TyOk.of ty55
  · cases h; exact TyOk.of ty56
  · cases h; exact TyOk.of ty57
  · cases h; exact TyOk.of ty68
  · cases h; exact TyOk.of ty71
  · cases h; exact TyOk.of ty73
  · cases h; exact TyOk.of ty76
  · cases h; exact TyOk.of ty77
  · cases h; exact TyOk.of ty78
  · cases h; exact TyOk.of ty79
  · cases h; exact TyOk.of ty88
  · cases h; exact TyOk.of ty89
  · cases h; exact TyOk.of ty90
  · cases h; exact TyOk.of ty99
  · cases h; exact TyOk.of ty100
  · cases h; exact TyOk.of ty101
  · cases h; exact TyOk.of ty103
  · cases h; exact TyOk.of ty106
  · cases h; exact TyOk.of ty107
  · cases h; exact TyOk.of ty110
  · cases h; exact TyOk.of ty113
  · cases h; exact TyOk.of ty114
  · cases h; exact TyOk.of ty116
  · cases h; exact TyOk.of ty117
  · cases h
theorem mixed : Tryd.prog.follows .mixedOrders = true := by kernel_rfl
section
variable {X : Ctx} {Q : Exit → St → Prop} {s : St} {ops : List Oper}
theorem rgK (id n : Nat) (ks : List Nat) (h : awpR false X ops.toArray (ops.take n) (ops.drop n) Q (s.kills ks)) (hm : X.P.follows .mixedOrders = true := by exact mixed) (hok : ordOk false ops.toArray n = true := by kernel_rfl) (hak : allocKeys ops.toArray = ks := by kernel_rfl) (hK : (ks.all fun k => !(X.K.contains k)) = true := by kernel_rfl) : awp X (.region id ops.toArray true) Q s := awp_regE id n ks hm hok hak hK h
theorem rgX (id n : Nat) (ks : List Nat) (h : awpR true X ops.toArray (ops.take n) (ops.drop n) Q (s.kills ks)) (hm : X.P.follows .mixedOrders = true := by exact mixed) (hok : ordOk true ops.toArray n = true := by kernel_rfl) (hak : allocKeys ops.toArray = ks := by kernel_rfl) (hK : (ks.all fun k => !(X.K.contains k)) = true := by kernel_rfl) : awp X (.region id ops.toArray true) Q s := awp_regE id n ks hm hok hak hK h
theorem rg (id n : Nat) (h : awpR false X ops.toArray (ops.take n) (ops.drop n) Q s) (hm : X.P.follows .mixedOrders = true := by exact mixed) (hok : ordOk false ops.toArray n = true := by kernel_rfl) (hak : allocKeys ops.toArray = [] := by kernel_rfl) : awp X (.region id ops.toArray true) Q s := awp_reg id n hm hok hak h
end
end Go.Proofs.YtfnonogemgnlhaaDoor

/-
  The grammar of formulas, on a text's bytes: words, places, and what is read from a place on. Conditions: none.
-/
namespace Go.Vw

def isLet (c : UInt8) : Bool := (97 ≤ c && c ≤ 122) || (65 ≤ c && c ≤ 90)
def isDig (c : UInt8) : Bool := 48 ≤ c && c ≤ 57
def isInn (c : UInt8) : Bool := isLet c || isDig c || c == 95 || c == 46
def runE (p : UInt8 → Bool) (t : List UInt8) (i : Nat) : Nat := i + ((t.drop i).takeWhile p).length
def isBl (c : UInt8) : Bool := c == 32
abbrev skp (t : List UInt8) (i : Nat) : Nat := runE isBl t i
def wend (t : List UInt8) (i : Nat) : Nat := if i < t.length then (if isLet (t.getD i 0) then runE isInn t i else if isDig (t.getD i 0) then runE isDig t i else i + 1) else t.length
def word (t : List UInt8) (i : Nat) : List UInt8 := (t.drop i).take (wend t i - i)
def nxt (t : List UInt8) (i : Nat) : Nat := skp t (wend t i)

theorem runE_ge (p : UInt8 → Bool) (t : List UInt8) (i : Nat) : i ≤ runE p t i := Nat.le_add_right _ _
theorem takeWhile_len {p : UInt8 → Bool} : ∀ l : List UInt8, (l.takeWhile p).length ≤ l.length
  | [] => Nat.le_refl _
  | x :: xs => by
    simp only [List.takeWhile]
    split
    · have := takeWhile_len (p := p) xs; simp; omega
    · simp
theorem runE_le (p : UInt8 → Bool) {t : List UInt8} {i : Nat} (h : i ≤ t.length) : runE p t i ≤ t.length := by
  have := takeWhile_len (p := p) (t.drop i)
  unfold runE; simp at this; omega
theorem runE_stop (p : UInt8 → Bool) {t : List UInt8} {i : Nat} (h : runE p t i < t.length) : p (t.getD (runE p t i) 0) = false := by
  have key : ∀ l : List UInt8, (l.takeWhile p).length < l.length → p (l.getD (l.takeWhile p).length 0) = false := by
    intro l
    induction l with
    | nil => intro h; simp at h
    | cons x xs ih =>
      simp only [List.takeWhile]
      cases hp : p x with
      | true => intro h; simp only [List.length_cons] at h ⊢; simpa using ih (by omega)
      | false => intro _; simpa using hp
  have := key (t.drop i) (by unfold runE at h; simp; omega)
  unfold runE
  simpa [List.getD_eq_getElem?_getD, List.getElem?_drop] using this
theorem runE_in (p : UInt8 → Bool) {t : List UInt8} {i j : Nat} (h1 : i ≤ j) (h2 : j < runE p t i) : p (t.getD j 0) = true := by
  have key : ∀ (l : List UInt8) j, j < (l.takeWhile p).length → p (l.getD j 0) = true := by
    intro l
    induction l with
    | nil => intro j h; simp at h
    | cons x xs ih =>
      intro j
      simp only [List.takeWhile]
      cases hp : p x with
      | true =>
        intro h
        cases j with
        | zero => simpa using hp
        | succ j => simpa using ih j (by simpa using h)
      | false => intro h; simp at h
  have := key (t.drop i) (j - i) (by unfold runE at h2; omega)
  simpa [List.getD_eq_getElem?_getD, List.getElem?_drop, show i + (j - i) = j by omega] using this
theorem runE_eq {p : UInt8 → Bool} {t : List UInt8} {i j : Nat} (h1 : i ≤ j) (h2 : j ≤ t.length) (h3 : ∀ k, i ≤ k → k < j → p (t.getD k 0) = true) (h4 : j < t.length → p (t.getD j 0) = false) : runE p t i = j := by
  have a := runE_ge p t i
  rcases Nat.lt_trichotomy (runE p t i) j with h | h | h
  · have := runE_stop p (t := t) (i := i) (by omega)
    rw [h3 _ a h] at this; cases this
  · exact h
  · have b := runE_in p (t := t) (i := i) h1 h
    have c := runE_le p (t := t) (i := i) (by omega)
    rw [h4 (by omega)] at b; cases b
theorem runE_step {p : UInt8 → Bool} {t : List UInt8} {i : Nat} (h : i < t.length) (hp : p (t.getD i 0) = true) : runE p t (i + 1) = runE p t i := by
  refine (runE_eq (Nat.le_of_lt_succ ?_) (runE_le p (by omega)) (fun k h1 h2 => ?_) (fun h1 => runE_stop p h1)).symm
  · exact Nat.lt_succ_of_le (Nat.le_trans (Nat.le_succ _) (runE_ge p t (i + 1)))
  · by_cases e : k = i
    · subst e; exact hp
    · exact runE_in p (by omega) h2
theorem runE_self {p : UInt8 → Bool} {t : List UInt8} {i : Nat} (h : i ≤ t.length) (hp : i < t.length → p (t.getD i 0) = false) : runE p t i = i := runE_eq (Nat.le_refl _) h (fun k _ _ => by omega) hp
theorem runE_idem {p : UInt8 → Bool} {t : List UInt8} {i : Nat} (h : i ≤ t.length) : runE p t (runE p t i) = runE p t i := runE_self (runE_le p h) (fun h => runE_stop p h)
theorem isLet_inn {c : UInt8} (h : isLet c = true) : isInn c = true := by unfold isInn; simp [h]
theorem wend_gt {t : List UInt8} {i : Nat} (h : i < t.length) : i < wend t i := by
  unfold wend
  rw [if_pos h]
  split
  · rename_i hl
    have := runE_ge isInn t (i + 1)
    rw [runE_step h (isLet_inn hl)] at this; omega
  · split
    · rename_i hd
      have := runE_ge isDig t (i + 1)
      rw [runE_step h hd] at this; omega
    · omega
theorem wend_le (t : List UInt8) (i : Nat) : wend t i ≤ t.length := by
  unfold wend
  split
  · split
    · exact runE_le _ (by omega)
    · split
      · exact runE_le _ (by omega)
      · omega
  · omega
theorem nxt_le (t : List UInt8) (i : Nat) : nxt t i ≤ t.length := runE_le _ (wend_le t i)
theorem nxt_gt {t : List UInt8} {i : Nat} (h : i < t.length) : i < nxt t i := Nat.lt_of_lt_of_le (wend_gt h) (runE_ge _ _ _)
theorem nxt_ge {t : List UInt8} {i : Nat} (h : i ≤ t.length) : i ≤ nxt t i := by
  by_cases e : i < t.length
  · exact Nat.le_of_lt (nxt_gt e)
  · have : wend t i = t.length := by unfold wend; rw [if_neg e]
    unfold nxt; rw [this]; have := runE_ge isBl t t.length; unfold skp; omega
theorem skp_nxt (t : List UInt8) (i : Nat) : skp t (nxt t i) = nxt t i := runE_idem (wend_le t i)

end Go.Vw

/-
  What is read from a place on: the relation, where it leads, and that it always leads somewhere. Conditions: none.
-/
namespace Go.Vw

abbrev Nd : Type := Int × List UInt8 × Int
abbrev PErr : Type := Nat × Int
abbrev Pos (α : Type) : Type := Except PErr (α × Nat)
def pwB : List UInt8 := [112, 111, 119, 101, 114]
def isName (s : List UInt8) : Bool := 1 ≤ s.length && s.length ≤ 32 && isLet (s.getD 0 0) && !(s == pwB) && s.all isInn

def mustP (t : List UInt8) (c : UInt8) (i : Nat) : Except PErr Nat := if word t i = [c] then .ok (nxt t i) else .error (i, 3)
def nameP (t : List UInt8) (i : Nat) : Pos (List UInt8) := if isName (word t i) then .ok (word t i, nxt t i) else .error (i, 3)
def digP (t : List UInt8) (i : Nat) : Option Nat := if (word t i).length = 1 ∧ isDig ((word t i).getD 0 0) = true then some (((word t i).getD 0 0).toNat - 48) else none
def numP (t : List UInt8) (lo hi : Nat) (i : Nat) : Pos Nat := match digP t i with
  | none => .error (i, 3)
  | some n => if lo ≤ n ∧ n ≤ hi then .ok (n, nxt t i) else .error (i, 1)
def powP (t : List UInt8) (i : Nat) : Pos (List Nd) :=
  match mustP t 40 i with
  | .error x => .error x
  | .ok i1 => match nameP t i1 with
    | .error x => .error x
    | .ok (s, i2) => match mustP t 44 i2 with
      | .error x => .error x
      | .ok i3 => match numP t 2 8 i3 with
        | .error x => .error x
        | .ok (n, i4) => match mustP t 41 i4 with
          | .error x => .error x
          | .ok i5 => .ok ([((2 : Int), s, (n : Int))], i5)
def varP (t : List UInt8) (i : Nat) : Pos (List Nd) := match nameP t i with
  | .error x => .error x
  | .ok (s, j) => .ok ([((1 : Int), s, (0 : Int))], j)
def atomP (t : List UInt8) (i : Nat) : Pos (List Nd) :=
  if word t i = [48] then .ok ([((4 : Int), [], (0 : Int))], nxt t i)
  else if word t i = [49] then .ok ([((3 : Int), [], (0 : Int))], nxt t i)
  else if word t i = pwB then powP t (nxt t i)
  else varP t i
def opOf (r : Nat) (w : List UInt8) : Option Int :=
  if r = 0 then (if w = [43] then some 5 else if w = [45] then some 6 else none)
  else if r = 1 then (if w = [42] then some 8 else if w = [47] then some 9 else none)
  else (if w = [58] then some 7 else none)

inductive Kd where
  | lev (r : Nat)
  | bin (r : Nat) (e : List Nd)
  | pri
  | rai (e : List Nd)

inductive Rs (t : List UInt8) : Kd → Nat → Pos (List Nd) → Prop where
  | levE {r i x} (h : r < 3) (h1 : Rs t (.lev (r + 1)) i (.error x)) : Rs t (.lev r) i (.error x)
  | levO {r i e j o} (h : r < 3) (h1 : Rs t (.lev (r + 1)) i (.ok (e, j))) (h2 : Rs t (.bin r e) j o) : Rs t (.lev r) i o
  | raiE {i x} (h1 : Rs t .pri i (.error x)) : Rs t (.lev 3) i (.error x)
  | raiO {i e j o} (h1 : Rs t .pri i (.ok (e, j))) (h2 : Rs t (.rai e) j o) : Rs t (.lev 3) i o
  | bin0 {r e i} (h : opOf r (word t i) = none) : Rs t (.bin r e) i (.ok (e, i))
  | binE {r e i op x} (h : opOf r (word t i) = some op) (h1 : Rs t (.lev (r + 1)) (nxt t i) (.error x)) : Rs t (.bin r e) i (.error x)
  | binO {r e i op e' j o} (h : opOf r (word t i) = some op) (h1 : Rs t (.lev (r + 1)) (nxt t i) (.ok (e', j))) (h2 : Rs t (.bin r ((op, [], (0 : Int)) :: (e ++ e'))) j o) : Rs t (.bin r e) i o
  | rai0 {e i} (h : word t i ≠ [94]) : Rs t (.rai e) i (.ok (e, i))
  | raiX {e i x} (h : word t i = [94]) (h1 : numP t 1 6 (nxt t i) = .error x) : Rs t (.rai e) i (.error x)
  | raiN {e i n j o} (h : word t i = [94]) (h1 : numP t 1 6 (nxt t i) = .ok (n, j)) (h2 : Rs t (.rai (((10 : Int), [], (n : Int)) :: e)) j o) : Rs t (.rai e) i o
  | atom {i} (h : word t i ≠ [40]) : Rs t .pri i (atomP t i)
  | brE {i x} (h : word t i = [40]) (h1 : Rs t (.lev 0) (nxt t i) (.error x)) : Rs t .pri i (.error x)
  | brX {i e j x} (h : word t i = [40]) (h1 : Rs t (.lev 0) (nxt t i) (.ok (e, j))) (h2 : mustP t 41 j = .error x) : Rs t .pri i (.error x)
  | brO {i e j k} (h : word t i = [40]) (h1 : Rs t (.lev 0) (nxt t i) (.ok (e, j))) (h2 : mustP t 41 j = .ok k) : Rs t .pri i (.ok (e, k))

structure At (t : List UInt8) (i : Nat) : Prop where
  le : i ≤ t.length
  skp : skp t i = i
theorem at_nxt (t : List UInt8) (i : Nat) : At t (nxt t i) := ⟨nxt_le t i, skp_nxt t i⟩
theorem word_nil {t : List UInt8} {i : Nat} (h : i ≤ t.length) : word t i = [] ↔ i = t.length := by
  constructor
  · intro e
    by_cases hi : i < t.length
    · have h1 := wend_gt hi
      have h2 := wend_le t i
      have := congrArg List.length e
      unfold word at this
      simp at this; omega
    · omega
  · intro e; subst e; unfold word; simp
theorem lt_of_word {t : List UInt8} {i : Nat} (h : word t i ≠ []) : i < t.length := by
  by_cases e : i < t.length
  · exact e
  · exfalso; apply h; unfold word; rw [List.drop_eq_nil_of_le (by omega)]; simp

theorem mustP_ok {t : List UInt8} {c : UInt8} {i j : Nat} (h : mustP t c i = .ok j) : At t j ∧ i < j ∧ j = nxt t i ∧ word t i = [c] := by
  unfold mustP at h
  split at h
  · rename_i hw; cases h; exact ⟨at_nxt t i, nxt_gt (lt_of_word (by rw [hw]; simp)), rfl, hw⟩
  · cases h
theorem mustP_er {t : List UInt8} {c : UInt8} {i : Nat} {x : PErr} (h : mustP t c i = .error x) : x = (i, 3) ∧ word t i ≠ [c] := by
  unfold mustP at h
  split at h
  · cases h
  · rename_i hw; cases h; exact ⟨rfl, hw⟩
theorem isName_ne {s : List UInt8} (h : isName s = true) : s ≠ [] := fun e => by subst e; revert h; decide
theorem nameP_ok {t : List UInt8} {i j : Nat} {s : List UInt8} (h : nameP t i = .ok (s, j)) : At t j ∧ i < j ∧ j = nxt t i ∧ s = word t i ∧ isName s = true := by
  unfold nameP at h
  split at h
  · rename_i hw; cases h; exact ⟨at_nxt t i, nxt_gt (lt_of_word (isName_ne hw)), rfl, rfl, hw⟩
  · cases h
theorem nameP_er {t : List UInt8} {i : Nat} {x : PErr} (h : nameP t i = .error x) : x = (i, 3) ∧ isName (word t i) = false := by
  unfold nameP at h
  split at h
  · cases h
  · rename_i hw; cases h; exact ⟨rfl, by simpa using hw⟩
theorem digP_lt {t : List UInt8} {i n : Nat} (h : digP t i = some n) : i < t.length ∧ n ≤ 9 := by
  unfold digP at h
  split at h
  · rename_i hw
    cases h
    refine ⟨lt_of_word fun e => by rw [e] at hw; simp at hw, ?_⟩
    have := hw.2
    simp only [isDig, Bool.and_eq_true, decide_eq_true_eq] at this
    have h2 := UInt8.le_iff_toNat_le.1 this.2
    simp at h2 ⊢; omega
  · cases h
theorem numP_ok {t : List UInt8} {lo hi i n j : Nat} (h : numP t lo hi i = .ok (n, j)) : At t j ∧ i < j ∧ j = nxt t i ∧ lo ≤ n ∧ n ≤ hi ∧ digP t i = some n := by
  unfold numP at h
  split at h
  · cases h
  · rename_i m hm
    split at h
    · cases h; exact ⟨at_nxt t i, nxt_gt (digP_lt hm).1, rfl, by omega, by omega, hm⟩
    · cases h
theorem numP_er {t : List UInt8} {lo hi i : Nat} {x : PErr} (h : numP t lo hi i = .error x) : x = (i, 3) ∨ x = (i, 1) := by
  unfold numP at h
  split at h
  · cases h; exact .inl rfl
  · split at h
    · cases h
    · cases h; exact .inr rfl

def ErrIn (t : List UInt8) (i : Nat) (x : PErr) : Prop := i ≤ x.1 ∧ x.1 ≤ t.length ∧ skp t x.1 = x.1 ∧ (x.2 = 3 ∨ x.2 = 1)
theorem ErrIn.mono {t : List UInt8} {i j : Nat} {x : PErr} (h : ErrIn t j x) (hij : i ≤ j) : ErrIn t i x := ⟨Nat.le_trans hij h.1, h.2⟩
theorem At.err {t : List UInt8} {i : Nat} (h : At t i) {n : Int} (hn : n = 3 ∨ n = 1) : ErrIn t i (i, n) := ⟨Nat.le_refl _, h.le, h.skp, hn⟩

theorem powP_ok {t : List UInt8} {i j : Nat} {e : List Nd} (h : powP t i = .ok (e, j)) : At t j ∧ i < j ∧ e.length = 1 ∧ ∃ s, ∃ n : Nat, e = [((2 : Int), s, (n : Int))] ∧ isName s = true ∧ 2 ≤ n ∧ n ≤ 8 := by
  unfold powP at h
  repeat' split at h
  all_goals first | (cases h; done) | skip
  rename_i _ i1 h1 _ s i2 h2 _ i3 h3 _ n i4 h4 _ i5 h5
  cases h
  have a1 := mustP_ok h1
  have a2 := nameP_ok h2
  have a3 := mustP_ok h3
  have a4 := numP_ok h4
  have a5 := mustP_ok h5
  exact ⟨a5.1, by omega, rfl, s, n, rfl, a2.2.2.2.2, a4.2.2.2.1, a4.2.2.2.2.1⟩
theorem powP_er {t : List UInt8} {i : Nat} {x : PErr} (hi : At t i) (h : powP t i = .error x) : ErrIn t i x := by
  unfold powP at h
  split at h
  · rename_i h1; cases h; rw [(mustP_er h1).1]; exact hi.err (.inl rfl)
  · rename_i i1 h1
    have a1 := mustP_ok h1
    split at h
    · rename_i h2; cases h; rw [(nameP_er h2).1]; exact (a1.1.err (.inl rfl)).mono (by omega)
    · rename_i s i2 h2
      have a2 := nameP_ok h2
      split at h
      · rename_i h3; cases h; rw [(mustP_er h3).1]; exact (a2.1.err (.inl rfl)).mono (by omega)
      · rename_i i3 h3
        have a3 := mustP_ok h3
        split at h
        · rename_i h4; cases h
          rcases numP_er h4 with e | e <;> rw [e] <;> exact (a3.1.err (by simp)).mono (by omega)
        · rename_i n i4 h4
          have a4 := numP_ok h4
          split at h
          · rename_i h5; cases h; rw [(mustP_er h5).1]; exact (a4.1.err (.inl rfl)).mono (by omega)
          · cases h
theorem atomP_ok {t : List UInt8} {i j : Nat} {e : List Nd} (h : atomP t i = .ok (e, j)) : At t j ∧ i < j ∧ e.length = 1 := by
  unfold atomP at h
  split at h
  · rename_i hw; cases h; exact ⟨at_nxt t i, nxt_gt (lt_of_word (by rw [hw]; simp)), rfl⟩
  · split at h
    · rename_i hw; cases h; exact ⟨at_nxt t i, nxt_gt (lt_of_word (by rw [hw]; simp)), rfl⟩
    · split at h
      · rename_i hw
        have := powP_ok h
        have h2 := nxt_gt (lt_of_word (t := t) (i := i) (by rw [hw]; decide))
        exact ⟨this.1, by omega, this.2.2.1⟩
      · unfold varP at h
        split at h
        · cases h
        · rename_i s k hk; cases h
          have := nameP_ok hk
          exact ⟨this.1, this.2.1, rfl⟩
theorem atomP_er {t : List UInt8} {i : Nat} {x : PErr} (hi : At t i) (h : atomP t i = .error x) : ErrIn t i x := by
  unfold atomP at h
  split at h
  · cases h
  · split at h
    · cases h
    · split at h
      · exact (powP_er (at_nxt t i) h).mono (nxt_ge hi.le)
      · unfold varP at h
        split at h
        · rename_i hk; cases h; rw [(nameP_er hk).1]; exact hi.err (.inl rfl)
        · cases h

def Kd.pre : Kd → Nat
  | .bin _ e => e.length
  | .rai e => e.length
  | _ => 0
def Kd.cons : Kd → Bool
  | .lev _ => true
  | .pri => true
  | _ => false
theorem opOf_nil (r : Nat) : opOf r [] = none := by
  unfold opOf
  split
  · rfl
  · split <;> rfl
theorem opOf_lt {t : List UInt8} {r i : Nat} {op : Int} (h : opOf r (word t i) = some op) : i < t.length := lt_of_word fun e => by
  rw [e, opOf_nil] at h; cases h

def Goes (t : List UInt8) (k : Kd) (i : Nat) : Pos (List Nd) → Prop
  | .error x => ErrIn t i x
  | .ok (e, j) => At t j ∧ i ≤ j ∧ e.length ≤ k.pre + (j - i) ∧ k.pre ≤ e.length ∧ (k.cons = true → i < j ∧ 1 ≤ e.length)
theorem Rs.goes {t : List UInt8} {k : Kd} {i : Nat} {o : Pos (List Nd)} (h : Rs t k i o) : At t i → Goes t k i o := by
  induction h with
  | levE h h1 ih => exact fun hi => ih hi
  | raiE h1 ih => exact fun hi => ih hi
  | @levO r i e j o h h1 h2 ih1 ih2 =>
    intro hi
    obtain ⟨a1, a2, a3, a4, a5⟩ := ih1 hi
    have b := ih2 a1
    cases o with
    | error x => exact b.mono a2
    | ok p =>
      obtain ⟨e2, k⟩ := p
      obtain ⟨b1, b2, b3, b4, b5⟩ := b
      have a5 := a5 rfl
      simp only [Kd.pre] at a3 b3 b4
      exact ⟨b1, by omega, by simp only [Kd.pre]; omega, by simp only [Kd.pre]; omega, fun _ => by omega⟩
  | @raiO i e j o h1 h2 ih1 ih2 =>
    intro hi
    obtain ⟨a1, a2, a3, a4, a5⟩ := ih1 hi
    have b := ih2 a1
    cases o with
    | error x => exact b.mono a2
    | ok p =>
      obtain ⟨e2, k⟩ := p
      obtain ⟨b1, b2, b3, b4, b5⟩ := b
      have a5 := a5 rfl
      simp only [Kd.pre] at a3 b3 b4
      exact ⟨b1, by omega, by simp only [Kd.pre]; omega, by simp only [Kd.pre]; omega, fun _ => by omega⟩
  | bin0 h => exact fun hi => ⟨hi, Nat.le_refl _, by simp [Kd.pre], by simp [Kd.pre], fun h => by cases h⟩
  | rai0 h => exact fun hi => ⟨hi, Nat.le_refl _, by simp [Kd.pre], by simp [Kd.pre], fun h => by cases h⟩
  | @binE r e i op x h h1 ih =>
    exact fun hi => (ih (at_nxt t i)).mono (nxt_ge hi.le)
  | @binO r e i op e' j o h h1 h2 ih1 ih2 =>
    intro hi
    have h0 := nxt_gt (opOf_lt h)
    obtain ⟨a1, a2, a3, a4, a5⟩ := ih1 (at_nxt t i)
    have b := ih2 a1
    cases o with
    | error x => exact b.mono (by omega)
    | ok p =>
      obtain ⟨e2, k⟩ := p
      obtain ⟨b1, b2, b3, b4, b5⟩ := b
      simp only [Kd.pre, List.length_cons, List.length_append] at a3 b3 b4
      exact ⟨b1, by omega, by simp only [Kd.pre]; omega, by simp only [Kd.pre]; omega, fun h => by cases h⟩
  | @raiX e i x h h1 =>
    intro hi
    rcases numP_er h1 with q | q <;> subst q <;> exact ((at_nxt t i).err (by simp)).mono (nxt_ge hi.le)
  | @raiN e i n j o h h1 h2 ih =>
    intro hi
    have h0 := nxt_gt (lt_of_word (t := t) (i := i) (by rw [h]; simp))
    have a := numP_ok h1
    have b := ih a.1
    cases o with
    | error x => exact b.mono (by omega)
    | ok p =>
      obtain ⟨e2, k⟩ := p
      obtain ⟨b1, b2, b3, b4, b5⟩ := b
      simp only [Kd.pre, List.length_cons] at b3 b4
      exact ⟨b1, by omega, by simp only [Kd.pre]; omega, by simp only [Kd.pre]; omega, fun h => by cases h⟩
  | @atom i h =>
    intro hi
    cases ha : atomP t i with
    | error x => exact atomP_er hi ha
    | ok p =>
      obtain ⟨e, j⟩ := p
      have := atomP_ok ha
      exact ⟨this.1, by omega, by simp only [Kd.pre]; omega, by simp [Kd.pre], fun _ => by omega⟩
  | @brE i x h h1 ih => exact fun hi => (ih (at_nxt t i)).mono (nxt_ge hi.le)
  | @brX i e j x h h1 h2 ih =>
    intro hi
    obtain ⟨a1, a2, a3, a4, a5⟩ := ih (at_nxt t i)
    have := (mustP_er h2).1
    subst this
    exact (a1.err (.inl rfl)).mono (Nat.le_trans (nxt_ge hi.le) a2)
  | @brO i e j k h h1 h2 ih =>
    intro hi
    obtain ⟨a1, a2, a3, a4, a5⟩ := ih (at_nxt t i)
    have b := mustP_ok h2
    have c := nxt_ge (t := t) hi.le
    have a5 := a5 rfl
    simp only [Kd.pre] at a3
    exact ⟨b.1, by omega, by simp only [Kd.pre]; omega, by simp only [Kd.pre]; omega, fun _ => by omega⟩

def Kd.rank : Kd → Nat
  | .lev r => 5 - min r 4
  | .bin _ _ => 0
  | .pri => 1
  | .rai _ => 0
def Kd.ok : Kd → Prop
  | .lev r => r ≤ 3
  | .bin r _ => r < 3
  | _ => True
theorem Rs.ex (t : List UInt8) : ∀ (n : Nat) (k : Kd) (i : Nat), 6 * (t.length - i) + k.rank ≤ n → k.ok → At t i → ∃ o, Rs t k i o := by
  intro n
  induction n using Nat.strongRecOn with
  | _ n ih =>
    intro k i hn hk hi
    have hb : ∀ (r : Nat) (e : List Nd) (m : Nat), m + 1 ≤ n → 6 * (t.length - i) ≤ m → True := fun _ _ _ _ _ => trivial
    cases k with
    | lev r =>
      simp only [Kd.ok] at hk
      by_cases h3 : r = 3
      · subst h3
        simp only [Kd.rank] at hn
        obtain ⟨o, ho⟩ := ih (n - 1) (by omega) .pri i (by simp only [Kd.rank]; omega) trivial hi
        cases o with
        | error x => exact ⟨_, .raiE ho⟩
        | ok p =>
          obtain ⟨e, j⟩ := p
          obtain ⟨a1, a2, _, _, a5⟩ := ho.goes hi
          have a5 := a5 rfl
          have := hi.le
          obtain ⟨o2, ho2⟩ := ih (n - 1) (by omega) (.rai e) j (by simp only [Kd.rank]; have := a1.le; omega) trivial a1
          exact ⟨_, .raiO ho ho2⟩
      · simp only [Kd.rank] at hn
        obtain ⟨o, ho⟩ := ih (n - 1) (by omega) (.lev (r + 1)) i (by simp only [Kd.rank]; omega) (by simp only [Kd.ok]; omega) hi
        cases o with
        | error x => exact ⟨_, .levE (by omega) ho⟩
        | ok p =>
          obtain ⟨e, j⟩ := p
          obtain ⟨a1, a2, _, _, a5⟩ := ho.goes hi
          have a5 := a5 rfl
          have := hi.le
          obtain ⟨o2, ho2⟩ := ih (n - 1) (by omega) (.bin r e) j (by simp only [Kd.rank]; have := a1.le; omega) (by simp only [Kd.ok]; omega) a1
          exact ⟨_, .levO (by omega) ho ho2⟩
    | bin r e =>
      simp only [Kd.ok] at hk
      cases hop : opOf r (word t i) with
      | none => exact ⟨_, .bin0 hop⟩
      | some op =>
        have hlt := opOf_lt hop
        have h0 := nxt_gt hlt
        have h1 := nxt_le t i
        simp only [Kd.rank] at hn
        obtain ⟨o, ho⟩ := ih (n - 1) (by omega) (.lev (r + 1)) (nxt t i) (by simp only [Kd.rank]; omega) (by simp only [Kd.ok]; omega) (at_nxt t i)
        cases o with
        | error x => exact ⟨_, .binE hop ho⟩
        | ok p =>
          obtain ⟨e2, j⟩ := p
          obtain ⟨a1, a2, _, _, a5⟩ := ho.goes (at_nxt t i)
          obtain ⟨o2, ho2⟩ := ih (n - 1) (by omega) (.bin r ((op, [], 0) :: (e ++ e2))) j (by simp only [Kd.rank]; have := a1.le; omega) hk a1
          exact ⟨_, .binO hop ho ho2⟩
    | pri =>
      simp only [Kd.rank] at hn
      by_cases hw : word t i = [40]
      · have hlt := lt_of_word (t := t) (i := i) (by rw [hw]; simp)
        have h0 := nxt_gt hlt
        have h1 := nxt_le t i
        obtain ⟨o, ho⟩ := ih (n - 1) (by omega) (.lev 0) (nxt t i) (by simp only [Kd.rank]; omega) (by simp only [Kd.ok]; omega) (at_nxt t i)
        cases o with
        | error x => exact ⟨_, .brE hw ho⟩
        | ok p =>
          obtain ⟨e, j⟩ := p
          cases hm : mustP t 41 j with
          | error x => exact ⟨_, .brX hw ho hm⟩
          | ok k => exact ⟨_, .brO hw ho hm⟩
      · exact ⟨_, .atom hw⟩
    | rai e =>
      simp only [Kd.rank] at hn
      by_cases hw : word t i = [94]
      · have hlt := lt_of_word (t := t) (i := i) (by rw [hw]; simp)
        have h0 := nxt_gt hlt
        cases hm : numP t 1 6 (nxt t i) with
        | error x => exact ⟨_, .raiX hw hm⟩
        | ok p =>
          obtain ⟨m, j⟩ := p
          have a := numP_ok hm
          have a1 := a.1.le
          obtain ⟨o2, ho2⟩ := ih (n - 1) (by omega) (.rai ((10, [], (m : Int)) :: e)) j (by simp only [Kd.rank]; omega) trivial a.1
          exact ⟨_, .raiN hw hm ho2⟩
      · exact ⟨_, .rai0 hw⟩
theorem Rs.all {t : List UInt8} {k : Kd} {i : Nat} (hk : k.ok) (hi : At t i) : ∃ o, Rs t k i o := Rs.ex t _ k i (Nat.le_refl _) hk hi

end Go.Vw

/-
  Formulas as trees, how they are written, and that what is written is read back. Conditions: as each says.
-/
namespace Go.Vw

inductive Ft where
  | leaf (n : Nd)
  | un (k : Int) (a : Ft)
  | bi (op : Int) (a b : Ft)
def Ft.flat : Ft → List Nd
  | .leaf n => [n]
  | .un k a => ((10 : Int), [], k) :: a.flat
  | .bi op a b => (op, [], (0 : Int)) :: (a.flat ++ b.flat)
def leafOk (n : Nd) : Prop := (n.1 = 1 ∧ isName n.2.1 = true ∧ n.2.2 = 0) ∨ (n.1 = 2 ∧ isName n.2.1 = true ∧ 2 ≤ n.2.2 ∧ n.2.2 ≤ 8) ∨ ((n.1 = 3 ∨ n.1 = 4) ∧ n.2.1 = [] ∧ n.2.2 = 0)
def Ft.ok : Ft → Prop
  | .leaf n => leafOk n
  | .un k a => 1 ≤ k ∧ k ≤ 6 ∧ a.ok
  | .bi op a b => 5 ≤ op ∧ op ≤ 9 ∧ a.ok ∧ b.ok
def Ft.op : Ft → Int
  | .leaf n => n.1
  | .un _ _ => 10
  | .bi op _ _ => op
def rk (op : Int) : Nat := if op = 5 ∨ op = 6 then 0 else if op = 8 ∨ op = 9 then 1 else if op = 7 then 2 else if op = 10 then 3 else 4
def dgB (k : Int) : UInt8 := UInt8.ofNat (48 + k.toNat)
def sgC (op : Int) : UInt8 := if op = 5 then 43 else if op = 6 then 45 else if op = 8 then 42 else if op = 9 then 47 else 58
def sgB (op : Int) : List UInt8 := if op = 7 then [58] else [32, sgC op, 32]
def leafB (n : Nd) : List UInt8 := if n.1 = 1 then n.2.1 else if n.1 = 2 then pwB ++ (40 :: (n.2.1 ++ [44, 32, dgB n.2.2, 41])) else if n.1 = 3 then [49] else [48]
def brB (b : Bool) (s : List UInt8) : List UInt8 := if b then 40 :: (s ++ [41]) else s
def Ft.pr : Ft → List UInt8
  | .leaf n => leafB n
  | .un k a => brB (decide (rk a.op < 3)) a.pr ++ [94, dgB k]
  | .bi op a b => brB (decide (rk a.op < rk op)) a.pr ++ (sgB op ++ brB (decide (rk b.op < rk op + 1)) b.pr)
def Ft.prB (r : Nat) (T : Ft) : List UInt8 := brB (decide (rk T.op < r)) T.pr

/-! ## Words of a written text -/

def Cl (l : List UInt8) : Prop := ∀ c r, l = c :: r → isInn c = false
theorem cl_nil : Cl [] := fun _ _ h => by cases h
theorem cl_cons {c : UInt8} {r : List UInt8} (h : isInn c = false) : Cl (c :: r) := fun _ _ e => by cases e; exact h
theorem getD_drop {t : List UInt8} {i : Nat} {c : UInt8} {r : List UInt8} (h : t.drop i = c :: r) : t.getD i 0 = c ∧ i < t.length ∧ t.drop (i + 1) = r := by
  have hl : i < t.length := by
    have := congrArg List.length h
    simp at this; omega
  refine ⟨?_, hl, ?_⟩
  · have : t[i]? = some c := by
      have := congrArg List.head? h
      simpa using this
    simp [List.getD_eq_getElem?_getD, this]
  · have := congrArg List.tail h
    simpa using this
theorem drop_app {t w r : List UInt8} {i : Nat} (h : t.drop i = w ++ r) : t.drop (i + w.length) = r := by
  rw [← List.drop_drop, h, List.drop_left]
theorem run_app {p : UInt8 → Bool} {t w r : List UInt8} {i : Nat} (h : t.drop i = w ++ r) (hw : w.all p = true) (hr : ∀ c q, r = c :: q → p c = false) (hi : i ≤ t.length) : runE p t i = i + w.length := by
  unfold runE
  rw [h]
  congr 1
  have : ∀ w : List UInt8, w.all p = true → ((w ++ r).takeWhile p).length = w.length := by
    intro w
    induction w with
    | nil =>
      intro _
      cases r with
      | nil => rfl
      | cons c q => simp [List.takeWhile, hr c q rfl]
    | cons x xs ih =>
      intro h
      simp only [List.all_cons, Bool.and_eq_true] at h
      simp [List.takeWhile, h.1, ih h.2]
  exact this w hw
theorem word_of {t w r : List UInt8} {i e : Nat} (h : t.drop i = w ++ r) (he : wend t i = i + w.length) : word t i = w := by
  unfold word
  rw [he, h, show i + w.length - i = w.length by omega, List.take_left]
theorem word_sign {t : List UInt8} {i : Nat} {c : UInt8} {r : List UInt8} (h : t.drop i = c :: r) (h1 : isLet c = false) (h2 : isDig c = false) : word t i = [c] ∧ wend t i = i + 1 := by
  obtain ⟨g1, g2, _⟩ := getD_drop h
  have : wend t i = i + 1 := by
    unfold wend
    rw [if_pos g2, g1, h1, h2]; rfl
  exact ⟨word_of (w := [c]) (e := 0) (r := r) h this, this⟩
theorem word_let {t w r : List UInt8} {i : Nat} (h : t.drop i = w ++ r) (h1 : isLet (w.getD 0 0) = true) (h2 : w.all isInn = true) (hr : Cl r) : word t i = w ∧ wend t i = i + w.length := by
  cases w with
  | nil => exact absurd h1 (by decide)
  | cons c q =>
    obtain ⟨g1, g2, _⟩ := getD_drop (show t.drop i = c :: (q ++ r) from h)
    have : wend t i = i + (c :: q).length := by
      unfold wend
      rw [if_pos g2, g1, if_pos (by simpa using h1)]
      exact run_app h h2 (fun c q e => hr c q e) (by omega)
    exact ⟨word_of (e := 0) h this, this⟩
theorem word_dig {t r : List UInt8} {i : Nat} {c : UInt8} (h : t.drop i = c :: r) (h1 : isDig c = true) (h3 : isLet c = false) (hr : ∀ d q, r = d :: q → isDig d = false) : word t i = [c] ∧ wend t i = i + 1 := by
  obtain ⟨g1, g2, _⟩ := getD_drop h
  have : wend t i = i + 1 := by
    unfold wend
    rw [if_pos g2, g1, h3, h1]
    exact run_app (w := [c]) h (by simp [h1]) hr (by omega)
  exact ⟨word_of (w := [c]) (e := 0) (r := r) h this, this⟩
def Nb (l : List UInt8) : Prop := ∀ c r, l = c :: r → isBl c = false
theorem skp_here {t r : List UInt8} {i : Nat} (h : t.drop i = r) (hr : Nb r) (hi : i ≤ t.length) : skp t i = i := by
  have := run_app (p := isBl) (w := []) (r := r) (by simpa using h) rfl hr hi
  simpa using this
theorem skp_one {t r : List UInt8} {i : Nat} (h : t.drop i = 32 :: r) (hr : Nb r) : skp t i = i + 1 := by
  have := run_app (p := isBl) (w := [32]) (r := r) (by simpa using h) rfl hr (by have := (getD_drop h).2.1; omega)
  simpa using this

theorem isName_spec {s : List UInt8} (h : isName s = true) : isLet (s.getD 0 0) = true ∧ s.all isInn = true ∧ s ≠ pwB ∧ 1 ≤ s.length := by
  simp only [isName, Bool.and_eq_true, decide_eq_true_eq, Bool.not_eq_true', beq_eq_false_iff_ne] at h
  exact ⟨h.1.1.2, h.2, h.1.2, h.1.1.1.1⟩
theorem dgB_spec {k : Int} (h1 : 0 ≤ k) (h2 : k ≤ 9) : isDig (dgB k) = true ∧ isLet (dgB k) = false ∧ (dgB k).toNat - 48 = k.toNat := by
  obtain ⟨n, rfl⟩ := Int.eq_ofNat_of_zero_le h1
  have : n ≤ 9 := by omega
  unfold dgB
  simp only [Int.toNat_natCast]
  have : n = 0 ∨ n = 1 ∨ n = 2 ∨ n = 3 ∨ n = 4 ∨ n = 5 ∨ n = 6 ∨ n = 7 ∨ n = 8 ∨ n = 9 := by omega
  rcases this with e | e | e | e | e | e | e | e | e | e <;> subst e <;> decide
theorem isInn_dig {c : UInt8} (h : isDig c = true) : isInn c = true := by unfold isInn; simp [h]
theorem bl_of_let {c : UInt8} (h : isLet c = true) : isBl c = false := by
  cases e : isBl c with
  | false => rfl
  | true =>
    have : c = 32 := by simpa [isBl] using e
    subst this; revert h; decide
theorem bl_of_dig {c : UInt8} (h : isDig c = true) : isBl c = false := by
  cases e : isBl c with
  | false => rfl
  | true =>
    have : c = 32 := by simpa [isBl] using e
    subst this; revert h; decide
theorem nb_cons {c : UInt8} {r : List UInt8} (h : isBl c = false) : Nb (c :: r) := fun _ _ e => by cases e; exact h
theorem nb_name {s r : List UInt8} (h : isName s = true) : Nb (s ++ r) := by
  cases s with
  | nil => exact absurd rfl (isName_ne h)
  | cons c q => exact nb_cons (bl_of_let (by simpa using (isName_spec h).1))
theorem nb_br {b : Bool} {s r : List UInt8} (h : ∀ r, Nb (s ++ r)) : Nb (brB b s ++ r) := by
  unfold brB
  split
  · exact nb_cons (by decide)
  · exact h r
theorem nb_leaf {n : Nd} (h : leafOk n) (r : List UInt8) : Nb (leafB n ++ r) := by
  unfold leafB
  rcases h with ⟨h1, h2, _⟩ | ⟨h1, h2, _⟩ | ⟨h1, h2, _⟩
  · rw [if_pos h1]; exact nb_name h2
  · rw [if_neg (by omega), if_pos h1]; exact nb_cons (by decide)
  · rw [if_neg (by omega), if_neg (by omega)]
    split <;> exact nb_cons (by decide)
theorem nb_pr : ∀ {T : Ft}, T.ok → ∀ r, Nb (T.pr ++ r)
  | .leaf n, h, r => nb_leaf h r
  | .un k a, h, r => by
    simp only [Ft.pr, List.append_assoc]
    exact nb_br fun r => nb_pr h.2.2 r
  | .bi op a b, h, r => by
    simp only [Ft.pr, List.append_assoc]
    exact nb_br fun r => nb_pr h.2.2.1 r

/-! ## Reading back -/

def tailK (r : Nat) (e : List Nd) : Kd := if r = 3 then .rai e else .bin r e
def Reads (t : List UInt8) (r : Nat) (i : Nat) (e : List Nd) (j : Nat) : Prop := ∀ o, Rs t (tailK r e) j o → Rs t (.lev r) i o
def Flw (t : List UInt8) (r j : Nat) : Prop := (∀ q, r < q → q < 3 → opOf q (word t j) = none) ∧ (r < 3 → word t j ≠ [94])
theorem Reads.up {t : List UInt8} {q i j : Nat} {e : List Nd} (h : Reads t q i e j) : ∀ (d r : Nat), q = r + d → q ≤ 3 → Flw t r j → Reads t r i e j
  | 0, r, hq, _, _ => by rw [hq] at h; exact h
  | d + 1, r, hq, h3, hf => by
    have h1 : Reads t (r + 1) i e j := Reads.up h d (r + 1) (by omega) h3 ⟨fun q a b => hf.1 q (by omega) b, fun a => hf.2 (by omega)⟩
    intro o ho
    unfold tailK at ho
    rw [if_neg (by omega)] at ho
    refine .levO (by omega) (h1 _ ?_) ho
    unfold tailK
    split
    · exact .rai0 (hf.2 (by omega))
    · exact .bin0 (hf.1 _ (by omega) (by omega))
theorem Reads.of {t : List UInt8} {i j r : Nat} {e : List Nd} (h : Rs t .pri i (.ok (e, j))) (hr : r ≤ 3) (hf : Flw t r j) : Reads t r i e j :=
  Reads.up (q := 3) (fun o ho => .raiO h ho) (3 - r) r (by omega) (Nat.le_refl _) hf
theorem Reads.done {t : List UInt8} {i j r : Nat} {e : List Nd} (h : Reads t r i e j) (hr : r ≤ 3) (h0 : r < 3 → opOf r (word t j) = none) (h3 : word t j ≠ [94]) : Rs t (.lev r) i (.ok (e, j)) := h _ (by
  unfold tailK
  split
  · exact .rai0 h3
  · exact .bin0 (h0 (by omega)))

theorem numP_dig {t : List UInt8} {i : Nat} {k : Int} {r : List UInt8} {lo hi : Nat} (h : t.drop i = dgB k :: r) (hr : ∀ d q, r = d :: q → isDig d = false) (h1 : (lo : Int) ≤ k) (h2 : k ≤ hi) (h3 : hi ≤ 9) : numP t lo hi i = .ok (k.toNat, nxt t i) ∧ wend t i = i + 1 := by
  obtain ⟨a, b, c⟩ := dgB_spec (k := k) (by omega) (by omega)
  obtain ⟨w1, w2⟩ := word_dig h a b hr
  refine ⟨?_, w2⟩
  have : digP t i = some k.toNat := by
    unfold digP
    rw [w1, if_pos ⟨rfl, by simpa using a⟩]
    simpa using c
  unfold numP
  rw [this]
  simp only
  rw [if_pos (by omega)]
theorem mustP_sign {t : List UInt8} {i : Nat} {c : UInt8} {r : List UInt8} (h : t.drop i = c :: r) (h1 : isLet c = false) (h2 : isDig c = false) : mustP t c i = .ok (skp t (i + 1)) := by
  obtain ⟨w1, w2⟩ := word_sign h h1 h2
  unfold mustP
  rw [if_pos w1]
  unfold nxt; rw [w2]
theorem nameP_name {t : List UInt8} {i : Nat} {s r : List UInt8} (h : t.drop i = s ++ r) (hs : isName s = true) (hr : Cl r) : nameP t i = .ok (s, skp t (i + s.length)) := by
  have hn := isName_spec hs
  obtain ⟨w1, w2⟩ := word_let h hn.1 hn.2.1 hr
  unfold nameP nxt
  rw [w1, w2, if_pos hs]
theorem opOf_sg {op : Int} (h1 : 5 ≤ op) (h2 : op ≤ 9) : opOf (rk op) [sgC op] = some op ∧ rk op < 3 ∧ (∀ q, rk op < q → q < 3 → opOf q [sgC op] = none) ∧ [sgC op] ≠ [94] ∧ isLet (sgC op) = false ∧ isDig (sgC op) = false ∧ isInn (sgC op) = false ∧ isBl (sgC op) = false := by
  have : op = 5 ∨ op = 6 ∨ op = 7 ∨ op = 8 ∨ op = 9 := by omega
  rcases this with e | e | e | e | e <;> subst e
  all_goals
    refine ⟨by decide, by decide, fun q a b => ?_, by decide, by decide, by decide, by decide, by decide⟩
    have hq : q = 0 ∨ q = 1 ∨ q = 2 := by omega
    rcases hq with e | e | e <;> subst e <;> first | decide | (exfalso; revert a; decide)
theorem leaf_reads {t : List UInt8} {i : Nat} {n : Nd} {r : List UInt8} (hn : leafOk n) (h : t.drop i = leafB n ++ r) (hr : Cl r) : Rs t .pri i (.ok ([n], skp t (i + (leafB n).length))) := by
  obtain ⟨op, s, k⟩ := n
  rcases hn with ⟨h1, h2, h3⟩ | ⟨h1, h2, h3, h4⟩ | ⟨h1, h2, h3⟩
  · simp only at h1 h2 h3; subst h1 h3
    have e : leafB ((1 : Int), s, (0 : Int)) = s := by unfold leafB; rfl
    rw [e] at h ⊢
    have hs := isName_spec h2
    obtain ⟨w1, w2⟩ := word_let h hs.1 hs.2.1 hr
    have ne : ∀ c : UInt8, isLet c = false → s ≠ [c] := fun c hc e => by rw [e] at hs; rw [show ([c] : List UInt8).getD 0 0 = c from rfl, hc] at hs; exact absurd hs.1 (by simp)
    have ha : atomP t i = .ok ([((1 : Int), s, (0 : Int))], skp t (i + s.length)) := by
      unfold atomP
      rw [w1, if_neg (ne _ (by decide)), if_neg (ne _ (by decide)), if_neg hs.2.2.1]
      unfold varP
      rw [nameP_name h h2 hr]
    rw [← ha]
    exact .atom (by rw [w1]; exact ne _ (by decide))
  · simp only at h1 h2 h3 h4; subst h1
    have e : leafB ((2 : Int), s, k) = pwB ++ (40 :: (s ++ [44, 32, dgB k, 41])) := by unfold leafB; rfl
    have hs := isName_spec h2
    rw [e] at h ⊢
    obtain ⟨d1, d2, d3⟩ := dgB_spec (k := k) (by omega) (by omega)
    have t0 : t.drop i = pwB ++ (40 :: (s ++ (44 :: 32 :: dgB k :: 41 :: r))) := by rw [h]; simp
    obtain ⟨w1, w2⟩ := word_let t0 (by decide) (by decide) (cl_cons (by decide))
    have t1 := drop_app t0
    have hle := (getD_drop t1).2.1
    have n0 : nxt t i = i + 5 := by
      unfold nxt; rw [w2]
      exact skp_here t1 (nb_cons (by decide)) (by omega)
    have t2 := (getD_drop t1).2.2
    have e1 : skp t (i + pwB.length + 1) = i + pwB.length + 1 := skp_here t2 (nb_name h2) (by omega)
    have m1 := mustP_sign t1 (by decide) (by decide)
    rw [e1] at m1
    have m2 := nameP_name t2 h2 (cl_cons (by decide))
    have t3 := drop_app t2
    have hle3 := (getD_drop t3).2.1
    have e3 : skp t (i + pwB.length + 1 + s.length) = i + pwB.length + 1 + s.length := skp_here t3 (nb_cons (by decide)) (by omega)
    rw [e3] at m2
    have m3 := mustP_sign t3 (by decide) (by decide)
    have t4 := (getD_drop t3).2.2
    have e4 := skp_one t4 (nb_cons (bl_of_dig d1))
    rw [e4] at m3
    have t5 := (getD_drop t4).2.2
    obtain ⟨m4, w4⟩ := numP_dig (lo := 2) (hi := 8) t5 (fun d q e => by cases e; decide) (by omega) (by omega) (by omega)
    have t6 := (getD_drop t5).2.2
    have hle6 := (getD_drop t6).2.1
    have e6 : nxt t (i + pwB.length + 1 + s.length + 1 + 1) = i + pwB.length + 1 + s.length + 1 + 1 + 1 := by
      unfold nxt; rw [w4]
      exact skp_here t6 (nb_cons (by decide)) (by omega)
    rw [e6] at m4
    have m5 := mustP_sign t6 (by decide) (by decide)
    have pl : pwB.length = 5 := rfl
    have hp : powP t (nxt t i) = .ok ([((2 : Int), s, k)], skp t (i + (pwB ++ (40 :: (s ++ [44, 32, dgB k, 41]))).length)) := by
      rw [n0]
      unfold powP
      rw [pl] at m1 m2 m3 m4 m5
      rw [m1]; simp only
      rw [m2]; simp only
      rw [m3]; simp only
      rw [m4]; simp only
      rw [m5]; simp only
      have : ((k.toNat : Nat) : Int) = k := Int.toNat_of_nonneg (by omega)
      rw [this]
      congr 3
      simp [pl]; omega
    have ha : atomP t i = .ok ([((2 : Int), s, k)], skp t (i + (pwB ++ (40 :: (s ++ [44, 32, dgB k, 41]))).length)) := by
      unfold atomP
      rw [w1, if_neg (by decide), if_neg (by decide), if_pos rfl, hp]
    rw [← ha]
    exact .atom (by rw [w1]; decide)
  · simp only at h1 h2 h3; subst h2 h3
    have key : ∀ c : UInt8, isDig c = true → isLet c = false → t.drop i = c :: r → word t i = [c] ∧ nxt t i = skp t (i + 1) := fun c a b hc => by
      obtain ⟨w1, w2⟩ := word_dig hc a b (fun d q e => by
        cases hd : isDig d with
        | false => rfl
        | true => have := hr d q e; rw [isInn_dig hd] at this; cases this)
      exact ⟨w1, by unfold nxt; rw [w2]⟩
    rcases h1 with h1 | h1 <;> subst h1
    · have e : leafB ((3 : Int), [], (0 : Int)) = [49] := rfl
      rw [e] at h ⊢
      obtain ⟨w1, w2⟩ := key 49 (by decide) (by decide) h
      have ha : atomP t i = .ok ([((3 : Int), [], (0 : Int))], skp t (i + [(49 : UInt8)].length)) := by
        unfold atomP
        rw [w1, if_neg (by decide), if_pos rfl, w2]; rfl
      rw [← ha]
      exact .atom (by rw [w1]; decide)
    · have e : leafB ((4 : Int), [], (0 : Int)) = [48] := rfl
      rw [e] at h ⊢
      obtain ⟨w1, w2⟩ := key 48 (by decide) (by decide) h
      have ha : atomP t i = .ok ([((4 : Int), [], (0 : Int))], skp t (i + [(48 : UInt8)].length)) := by
        unfold atomP
        rw [w1, if_pos rfl, w2]; rfl
      rw [← ha]
      exact .atom (by rw [w1]; decide)

theorem br_reads {t : List UInt8} {i : Nat} {T : Ft} {r : List UInt8} (hT : T.ok) (h : t.drop i = 40 :: (T.pr ++ 41 :: r)) (ih : ∀ {i r}, t.drop i = T.pr ++ r → Cl r → Flw t 0 (skp t (i + T.pr.length)) → Reads t 0 i T.flat (skp t (i + T.pr.length))) : Rs t .pri i (.ok (T.flat, skp t (i + (T.pr.length + 2)))) := by
  obtain ⟨w1, w2⟩ := word_sign h (by decide) (by decide)
  have t1 := (getD_drop h).2.2
  have hl := (getD_drop h).2.1
  have n0 : nxt t i = i + 1 := by
    unfold nxt; rw [w2]; exact skp_here t1 (nb_pr hT _) (by omega)
  have t2 := drop_app t1
  have hl2 := (getD_drop t2).2.1
  have e2 : skp t (i + 1 + T.pr.length) = i + 1 + T.pr.length := skp_here t2 (nb_cons (by decide)) (by omega)
  obtain ⟨w3, w4⟩ := word_sign t2 (by decide) (by decide)
  have hf : Flw t 0 (skp t (i + 1 + T.pr.length)) := by
    rw [e2]
    refine ⟨fun q a b => ?_, fun _ => by rw [w3]; decide⟩
    rw [w3]
    have : q = 1 ∨ q = 2 := by omega
    rcases this with e | e <;> subst e <;> rfl
  have R := ih t1 (cl_cons (by decide)) hf
  rw [e2] at R
  have R := R.done (by omega) (fun _ => by rw [w3]; rfl) (by rw [w3]; decide)
  have m := mustP_sign t2 (by decide) (by decide)
  have := Rs.brO w1 (by rw [n0]; exact R) m
  rw [show i + (T.pr.length + 2) = i + 1 + T.pr.length + 1 by omega]
  exact this

theorem brB_true (s : List UInt8) : brB true s = 40 :: (s ++ [41]) := rfl
theorem brB_false (s : List UInt8) : brB false s = s := rfl
theorem pr_reads (t : List UInt8) : ∀ (T : Ft), T.ok → ∀ {i : Nat} {r : List UInt8} (q : Nat), q ≤ rk T.op → q ≤ 3 → t.drop i = T.pr ++ r → Cl r → Flw t q (skp t (i + T.pr.length)) → Reads t q i T.flat (skp t (i + T.pr.length)) := by
  intro T
  -- an operand, in brackets or not
  have opd : ∀ (a : Ft), a.ok → (∀ {i : Nat} {r : List UInt8} (q : Nat), q ≤ rk a.op → q ≤ 3 → t.drop i = a.pr ++ r → Cl r → Flw t q (skp t (i + a.pr.length)) → Reads t q i a.flat (skp t (i + a.pr.length))) → ∀ {i : Nat} {r : List UInt8} (q : Nat), q ≤ 3 → t.drop i = brB (decide (rk a.op < q)) a.pr ++ r → Cl r → Flw t q (skp t (i + (brB (decide (rk a.op < q)) a.pr).length)) → Reads t q i a.flat (skp t (i + (brB (decide (rk a.op < q)) a.pr).length)) := fun a ha ih i r q hq h hr hf => by
    by_cases hk : rk a.op < q
    · rw [decide_eq_true hk, brB_true] at h hf ⊢
      have h' : t.drop i = 40 :: (a.pr ++ 41 :: r) := by rw [h]; simp
      have := br_reads ha h' (fun h1 h2 h3 => ih 0 (Nat.zero_le _) (by omega) h1 h2 h3)
      rw [show (40 :: (a.pr ++ [41]) : List UInt8).length = a.pr.length + 2 by simp] at hf ⊢
      exact Reads.of this hq hf
    · rw [decide_eq_false hk, brB_false] at h hf ⊢
      exact ih q (by omega) hq h hr hf
  induction T with
  | leaf n =>
    intro hT i r q _ h3 h hr hf
    exact Reads.of (leaf_reads hT h hr) h3 hf
  | un k a iha =>
    intro hT i r q h1 h3 h hr hf
    simp only [Ft.ok] at hT
    simp only [Ft.pr] at h hf ⊢
    obtain ⟨d1, d2, d3⟩ := dgB_spec (k := k) (by omega) (by omega)
    have h' : t.drop i = brB (decide (rk a.op < 3)) a.pr ++ (94 :: dgB k :: r) := by rw [h]; simp
    have t1 := drop_app h'
    have hl1 := (getD_drop t1).2.1
    have e1 : skp t (i + (brB (decide (rk a.op < 3)) a.pr).length) = i + (brB (decide (rk a.op < 3)) a.pr).length := skp_here t1 (nb_cons (by decide)) (by omega)
    obtain ⟨w1, w2⟩ := word_sign t1 (by decide) (by decide)
    have R := opd a hT.2.2 (fun q => iha hT.2.2 q) 3 (by omega) h' (cl_cons (by decide)) ⟨fun q a b => by omega, fun a => by omega⟩
    rw [e1] at R
    have t2 := (getD_drop t1).2.2
    have hl2 := (getD_drop t2).2.1
    have n1 : nxt t (i + (brB (decide (rk a.op < 3)) a.pr).length) = i + (brB (decide (rk a.op < 3)) a.pr).length + 1 := by
      unfold nxt; rw [w2]; exact skp_here t2 (nb_cons (bl_of_dig d1)) (by omega)
    obtain ⟨m1, w3⟩ := numP_dig (lo := 1) (hi := 6) t2 (fun d q e => by
        cases hd : isDig d with
        | false => rfl
        | true => have := hr d q e; rw [isInn_dig hd] at this; cases this) (by omega) (by omega) (by omega)
    rw [← n1] at m1
    have key : Reads t 3 i (Ft.un k a).flat (skp t (i + (brB (decide (rk a.op < 3)) a.pr ++ [94, dgB k]).length)) := by
      intro o ho
      refine R o ?_
      have e : nxt t (nxt t (i + (brB (decide (rk a.op < 3)) a.pr).length)) = skp t (i + (brB (decide (rk a.op < 3)) a.pr ++ [94, dgB k]).length) := by
        rw [n1]; unfold nxt; rw [w3]
        congr 1
        simp; omega
      refine Rs.raiN w1 m1 ?_
      have hk : ((k.toNat : Nat) : Int) = k := Int.toNat_of_nonneg (by omega)
      rw [hk, e]
      exact ho
    exact Reads.up key (3 - q) q (by omega) (by omega) hf
  | bi op a b iha ihb =>
    intro hT i r q h1 h3 h hr hf
    simp only [Ft.ok] at hT
    obtain ⟨o1, o2, o3, o4, o5, o6, o7, o8⟩ := opOf_sg hT.1 hT.2.1
    simp only [Ft.op] at h1
    simp only [Ft.pr] at h hf ⊢
    generalize hA : brB (decide (rk a.op < rk op)) a.pr = A at *
    generalize hB : brB (decide (rk b.op < rk op + 1)) b.pr = B at *
    have h' : t.drop i = A ++ (sgB op ++ (B ++ r)) := by rw [h]; simp
    have t1 := drop_app h'
    -- the sign
    have nbB : Nb (B ++ r) := by rw [← hB]; exact nb_br fun r => nb_pr hT.2.2.2 r
    have sg : ∃ p rest, skp t (i + A.length) = p ∧ t.drop p = sgC op :: rest ∧ skp t (p + 1) = i + A.length + (sgB op).length ∧ Cl (sgB op ++ (B ++ r)) := by
      have t2 := drop_app t1
      have hle : i + A.length + (sgB op).length ≤ t.length := by
        have := congrArg List.length h'
        simp at this
        have : (sgB op).length ≥ 1 := by unfold sgB; split <;> simp
        have h0 : i ≤ t.length := by
          by_cases hi : i ≤ t.length
          · exact hi
          · rw [List.drop_eq_nil_of_le (by omega)] at h'
            have := congrArg List.length h'
            simp at this; omega
        omega
      by_cases h7 : op = 7
      · subst h7
        have e7 : sgB 7 = [58] := rfl
        rw [e7] at t1 t2 hle ⊢
        have hle' : i + A.length + 1 ≤ t.length := hle
        have e8 : skp t (i + A.length) = i + A.length := skp_here t1 (nb_cons (by decide)) (by omega)
        refine ⟨i + A.length, B ++ r, e8, t1, ?_, cl_cons (c := 58) (by decide)⟩
        exact skp_here t2 nbB hle
      · have e7 : sgB op = [32, sgC op, 32] := by unfold sgB; rw [if_neg h7]
        rw [e7] at t1 t2 hle ⊢
        have s1 := skp_one t1 (nb_cons o8)
        have t3 := (getD_drop t1).2.2
        have t4 := (getD_drop t3).2.2
        refine ⟨_, _, s1, t3, ?_, cl_cons (c := 32) (by decide)⟩
        have := skp_one t4 nbB
        rw [this]; simp
    obtain ⟨p, rest, p1, p2, p3, p4⟩ := sg
    obtain ⟨w1, w2⟩ := word_sign p2 o5 o6
    have n1 : nxt t p = i + A.length + (sgB op).length := by unfold nxt; rw [w2]; exact p3
    have RA : Reads t (rk op) i a.flat p := by
      have := opd a hT.2.2.1 (fun q => iha hT.2.2.1 q) (rk op) (by omega) (r := sgB op ++ (B ++ r)) (i := i) (by rw [hA]; exact h') p4
      rw [hA, p1] at this
      exact this ⟨fun q a b => by rw [w1]; exact o3 q a b, fun _ => by rw [w1]; exact o4⟩
    have t5 : t.drop (i + A.length + (sgB op).length) = B ++ r := drop_app t1
    have ej : i + A.length + (sgB op).length + B.length = i + (A ++ (sgB op ++ B)).length := by simp; omega
    have RB : Reads t (rk op + 1) (i + A.length + (sgB op).length) b.flat (skp t (i + (A ++ (sgB op ++ B)).length)) := by
      have := opd b hT.2.2.2 (fun q => ihb hT.2.2.2 q) (rk op + 1) (by omega) (r := r) (i := i + A.length + (sgB op).length) (by rw [hB]; exact t5) hr
      rw [hB, ej] at this
      exact this ⟨fun q a b => hf.1 q (by omega) b, fun _ => hf.2 (by omega)⟩
    have RB := RB.done (by omega) (fun a => hf.1 _ (by omega) a) (hf.2 (by omega))
    rw [← n1] at RB
    have key : Reads t (rk op) i (Ft.bi op a b).flat (skp t (i + (A ++ (sgB op ++ B)).length)) := by
      intro o ho
      refine RA o ?_
      unfold tailK at ho ⊢
      rw [if_neg (by omega)] at ho ⊢
      exact .binO (by rw [w1]; exact o1) RB ho
    exact Reads.up key (rk op - q) q (by omega) (by omega) hf

end Go.Vw

/-
  What is read is a tree; which lists of nodes are trees; where an expression ends. Conditions: none.
-/
namespace Go.Vw

def Built (e : List Nd) : Prop := ∃ T : Ft, T.flat = e ∧ T.ok
def Kd.built : Kd → Prop
  | .bin _ e => Built e
  | .rai e => Built e
  | _ => True
theorem opOf_op {r : Nat} {w : List UInt8} {op : Int} (h : opOf r w = some op) : 5 ≤ op ∧ op ≤ 9 := by
  unfold opOf at h
  split at h
  · split at h
    · cases h; omega
    · split at h
      · cases h; omega
      · cases h
  · split at h
    · split at h
      · cases h; omega
      · split at h
        · cases h; omega
        · cases h
    · split at h
      · cases h; omega
      · cases h
theorem atomP_built {t : List UInt8} {i j : Nat} {e : List Nd} (h : atomP t i = .ok (e, j)) : Built e := by
  unfold atomP at h
  split at h
  · cases h; exact ⟨.leaf _, rfl, .inr (.inr ⟨.inr rfl, rfl, rfl⟩)⟩
  · split at h
    · cases h; exact ⟨.leaf _, rfl, .inr (.inr ⟨.inl rfl, rfl, rfl⟩)⟩
    · split at h
      · obtain ⟨_, _, _, s, n, rfl, h1, h2, h3⟩ := powP_ok h
        exact ⟨.leaf _, rfl, .inr (.inl ⟨rfl, h1, by simp only; omega, by simp only; omega⟩)⟩
      · unfold varP at h
        split at h
        · cases h
        · rename_i s k hk; cases h
          exact ⟨.leaf _, rfl, .inl ⟨rfl, (nameP_ok hk).2.2.2.2, rfl⟩⟩
def BuiltO : Pos (List Nd) → Prop
  | .ok (e, _) => Built e
  | .error _ => True
theorem Rs.tree {t : List UInt8} {k : Kd} {i : Nat} {o : Pos (List Nd)} (h : Rs t k i o) : k.built → BuiltO o := by
  induction h with
  | levE h h1 ih => exact fun _ => trivial
  | levO h h1 h2 ih1 ih2 => exact fun _ => ih2 (ih1 trivial)
  | raiE h1 ih => exact fun _ => trivial
  | raiO h1 h2 ih1 ih2 => exact fun _ => ih2 (ih1 trivial)
  | bin0 h => exact fun h => h
  | binE h h1 ih => exact fun _ => trivial
  | binO h h1 h2 ih1 ih2 =>
    intro hb
    obtain ⟨a, e1, a1⟩ := hb
    obtain ⟨b, e2, b1⟩ := ih1 trivial
    have := opOf_op h
    refine ih2 ⟨.bi _ a b, ?_, this.1, this.2, a1, b1⟩
    simp only [Ft.flat, e1, e2]
  | rai0 h => exact fun h => h
  | raiX h h1 => exact fun _ => trivial
  | @raiN e i n j o h h1 h2 ih =>
    intro hb
    obtain ⟨a, e1, a1⟩ := hb
    have := numP_ok h1
    refine ih ⟨.un (n : Int) a, by simp only [Ft.flat, e1], by omega, by omega, a1⟩
  | @atom i h =>
    intro _
    cases ha : atomP t i with
    | error x => trivial
    | ok p => exact atomP_built ha
  | brE h h1 ih => exact fun _ => trivial
  | brX h h1 h2 ih => exact fun _ => trivial
  | brO h h1 h2 ih => exact fun _ => ih trivial

/-! ## Lists of nodes -/

def leafB? (n : Nd) : Bool := (n.1 == 1 && isName n.2.1 && n.2.2 == 0) || (n.1 == 2 && isName n.2.1 && decide (2 ≤ n.2.2) && decide (n.2.2 ≤ 8)) || ((n.1 == 3 || n.1 == 4) && n.2.1 == [] && n.2.2 == 0)
theorem leafB?_iff {n : Nd} : leafB? n = true ↔ leafOk n := by
  unfold leafB? leafOk
  simp [and_assoc, or_assoc]
def opnd (n : Nd) : Option Nat :=
  if leafB? n then some 0
  else if n.1 = 10 ∧ n.2.1 = [] ∧ 1 ≤ n.2.2 ∧ n.2.2 ≤ 6 then some 1
  else if 5 ≤ n.1 ∧ n.1 ≤ 9 ∧ n.2.1 = [] ∧ n.2.2 = 0 then some 2
  else none
def cnt : List Nd → Nat → Bool
  | [], k => k == 0
  | n :: l, k => match opnd n, k with
    | some a, k + 1 => cnt l (k + a)
    | _, _ => false
def flatL : List Ft → List Nd
  | [] => []
  | T :: r => T.flat ++ flatL r
theorem cnt_trees : ∀ {l : List Nd} {k : Nat}, cnt l k = true → ∃ Ts : List Ft, Ts.length = k ∧ flatL Ts = l ∧ ∀ T ∈ Ts, T.ok
  | [], k, h => by
    have : k = 0 := by simpa [cnt] using h
    subst this; exact ⟨[], rfl, rfl, by simp⟩
  | n :: l, 0, h => by
    simp only [cnt] at h
    cases ho : opnd n <;> rw [ho] at h <;> cases h
  | n :: l, k + 1, h => by
    simp only [cnt] at h
    cases ho : opnd n with
    | none => rw [ho] at h; cases h
    | some a =>
      rw [ho] at h
      obtain ⟨Ts, h1, h2, h3⟩ := cnt_trees h
      obtain ⟨op, s, m⟩ := n
      unfold opnd at ho
      split at ho
      · rename_i hl
        cases ho
        exact ⟨.leaf (op, s, m) :: Ts, by simp [h1], by simp [flatL, Ft.flat, h2], fun T hT => by
          rcases List.mem_cons.1 hT with rfl | hT
          · exact leafB?_iff.1 hl
          · exact h3 T hT⟩
      · split at ho
        · rename_i hu
          cases ho
          simp only at hu
          obtain ⟨u1, u2, u3, u4⟩ := hu
          subst u1 u2
          cases Ts with
          | nil => simp at h1
          | cons a Ts =>
            exact ⟨.un m a :: Ts, by simpa using h1, by simp only [flatL, Ft.flat] at h2 ⊢; rw [← h2]; simp, fun T hT => by
              rcases List.mem_cons.1 hT with rfl | hT
              · exact ⟨u3, u4, h3 a (by simp)⟩
              · exact h3 T (by simp [hT])⟩
        · split at ho
          · rename_i hu
            cases ho
            simp only at hu
            obtain ⟨u1, u2, u3, u4⟩ := hu
            subst u3 u4
            match Ts, h1 with
            | a :: b :: Ts, h1 =>
              exact ⟨.bi op a b :: Ts, by simp at h1 ⊢; omega, by simp only [flatL, Ft.flat] at h2 ⊢; rw [← h2]; simp, fun T hT => by
                rcases List.mem_cons.1 hT with rfl | hT
                · exact ⟨u1, u2, h3 a (by simp), h3 b (by simp)⟩
                · exact h3 T (by simp [hT])⟩
            | [a], h1 => simp at h1
            | [], h1 => simp at h1
          · cases ho
theorem opnd_leaf {n : Nd} (h : leafOk n) : opnd n = some 0 := by
  unfold opnd; rw [if_pos (leafB?_iff.2 h)]
theorem opnd_un {k : Int} (h1 : 1 ≤ k) (h2 : k ≤ 6) : opnd ((10 : Int), [], k) = some 1 := by
  unfold opnd
  have : leafB? ((10 : Int), [], k) = false := by simp [leafB?]
  rw [this]
  rw [if_neg (by simp), if_pos ⟨rfl, rfl, h1, h2⟩]
theorem opnd_bi {op : Int} (h1 : 5 ≤ op) (h2 : op ≤ 9) : opnd (op, [], (0 : Int)) = some 2 := by
  unfold opnd
  have : leafB? (op, [], (0 : Int)) = false := by
    cases h : leafB? (op, [], (0 : Int)) with
    | false => rfl
    | true => exact absurd (leafB?_iff.1 h) (by unfold leafOk; simp only; omega)
  rw [this]
  rw [if_neg (by simp), if_neg (fun h => by have := h.1; omega), if_pos ⟨h1, h2, rfl, rfl⟩]
theorem cnt_app : ∀ (T : Ft), T.ok → ∀ (l : List Nd) (k : Nat), cnt (T.flat ++ l) (k + 1) = cnt l k
  | .leaf n, h, l, k => by
    simp only [Ft.flat, List.cons_append, List.nil_append, cnt, opnd_leaf h, Nat.add_zero]
  | .un m a, h, l, k => by
    simp only [Ft.flat, List.cons_append, cnt, opnd_un h.1 h.2.1]
    exact cnt_app a h.2.2 l k
  | .bi op a b, h, l, k => by
    simp only [Ft.flat, List.cons_append, List.append_assoc, cnt, opnd_bi h.1 h.2.1]
    rw [cnt_app a h.2.2.1, cnt_app b h.2.2.2]
theorem cnt_built {e : List Nd} : cnt e 1 = true ↔ Built e := by
  constructor
  · intro h
    obtain ⟨Ts, h1, h2, h3⟩ := cnt_trees h
    obtain ⟨T, rfl⟩ := List.length_eq_one_iff.1 h1
    exact ⟨T, by simpa [flatL] using h2, h3 T (by simp)⟩
  · rintro ⟨T, rfl, h⟩
    have := cnt_app T h [] 0
    simpa [cnt] using this

def arity (op : Int) : Int := if 1 ≤ op ∧ op ≤ 4 then 0 else if op = 10 then 1 else if 5 ≤ op ∧ op ≤ 9 then 2 else -1
def endN : List Nd → Nat → Option Nat
  | [], _ => none
  | n :: l, k => if arity n.1 < 0 then none else
    match k + (arity n.1).toNat - 1 with
    | 0 => some 1
    | j + 1 => (endN l (j + 1)).map (· + 1)
theorem opnd_arity {n : Nd} {a : Nat} (h : opnd n = some a) : arity n.1 = a := by
  unfold opnd at h
  split at h
  · rename_i hl
    cases h
    have hl := leafB?_iff.1 hl
    unfold arity
    rw [if_pos (by rcases hl with h | h | h <;> omega)]; rfl
  · split at h
    · rename_i hu; cases h; unfold arity; rw [if_neg (by omega), if_pos hu.1]; rfl
    · split at h
      · rename_i hu; cases h; unfold arity; rw [if_neg (by omega), if_neg (by omega), if_pos ⟨hu.1, hu.2.1⟩]; rfl
      · cases h
theorem endN_app : ∀ (T : Ft), T.ok → ∀ (l : List Nd) (k : Nat), endN (T.flat ++ l) (k + 1) = if k = 0 then some T.flat.length else (endN l k).map (· + T.flat.length)
  | .leaf n, h, l, k => by
    have ha := opnd_arity (opnd_leaf h)
    simp only [Ft.flat, List.cons_append, List.nil_append, endN, ha]
    cases k with
    | zero => rfl
    | succ k => simp
  | .un m a, h, l, k => by
    have ha := opnd_arity (opnd_un h.1 h.2.1)
    simp only [Ft.flat, List.cons_append, endN]
    simp only at ha
    rw [ha]
    have := endN_app a h.2.2 l k
    simp only [show ¬ ((1 : Nat) : Int) < 0 by omega, if_false, Int.toNat_natCast, show k + 1 + 1 - 1 = k + 1 by omega]
    rw [this]
    split
    · simp
    · simp only [Option.map_map, List.length_cons]; congr 1
  | .bi op a b, h, l, k => by
    have ha := opnd_arity (opnd_bi h.1 h.2.1)
    simp only [Ft.flat, List.cons_append, endN]
    simp only at ha
    rw [ha]
    simp only [show ¬ ((2 : Nat) : Int) < 0 by omega, if_false, Int.toNat_natCast, show k + 1 + 2 - 1 = (k + 1) + 1 by omega, List.append_assoc]
    rw [endN_app a h.2.2.1, endN_app b h.2.2.2]
    simp only [Nat.add_eq_zero_iff, Nat.one_ne_zero, and_false, if_false]
    split
    · simp [Nat.add_assoc, Nat.add_comm]
    · simp only [Option.map_map]
      congr 1
      funext x
      simp; omega
theorem endN_le : ∀ {l : List Nd} {k n : Nat}, endN l k = some n → 1 ≤ n ∧ n ≤ l.length
  | [], k, n, h => by cases h
  | x :: l, k, n, h => by
    simp only [endN] at h
    split at h
    · cases h
    · split at h
      · cases h; simp
      · simp only [Option.map_eq_some_iff] at h
        obtain ⟨m, h1, rfl⟩ := h
        have := endN_le h1
        simp; omega
theorem endN_cnt : ∀ {l : List Nd} {k : Nat}, (∀ n ∈ l, opnd n ≠ none) → 1 ≤ k → (endN l k = some l.length ↔ cnt l k = true)
  | [], k, _, h1 => by simp only [endN, cnt]; simp; omega
  | n :: l, 0, _, h1 => by omega
  | n :: l, k + 1, h, h1 => by
    obtain ⟨a, ha⟩ := Option.ne_none_iff_exists'.1 (h n (by simp))
    have har := opnd_arity ha
    simp only [endN, cnt, ha, har, Int.toNat_natCast]
    rw [if_neg (by omega), show k + 1 + a - 1 = k + a by omega]
    cases hk : k + a with
    | zero =>
      simp only
      cases l with
      | nil => simp [cnt]
      | cons m l => simp [cnt]
    | succ j =>
      simp only
      have := endN_cnt (l := l) (k := j + 1) (fun n hn => h n (by simp [hn])) (by omega)
      rw [← this]
      constructor
      · intro h
        simp only [Option.map_eq_some_iff] at h
        obtain ⟨m, h1, h2⟩ := h
        rw [h1]; simp at h2; rw [h2]
      · intro h; rw [h]; simp

end Go.Vw
