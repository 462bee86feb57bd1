/-
  Contracts of functions of the program, and the layer that they are walked with: VO Tab Limbs LimbsB R01 LimbsC Nats N01 NatsB R02 R03. Conditions: as each says.
-/
import Derived.KernelRfl
import Derived.Test.YtlphlodailailaaGreatProg
import Derived.Test.YtlphlodailailaaGreatA03
/-
  The rules of the walk, their side conditions paid by themselves. Conditions: as each says.
-/
set_option linter.unusedSimpArgs false
set_option linter.unusedVariables false
set_option linter.unusedSectionVars false
namespace Go.Vw
open Go.RowKit

def forceV (C : Prop) : V → Ev V
  | .d y => some (C, .d y)
  | .own k o n ty sz => some (C, .own k o n ty sz)
  | .ptr k o => some (C, .ptr k o)
  | .eptr k sz i f => some (C, .eptr k sz i f)
  | .agg cs => some (C, .agg cs)
  | .tup cs => some (C, .tup cs)
  | .fn f cs => some (C, .fn f cs)
theorem forceV_eq (C : Prop) (x : V) : forceV C x = some (C, x) := by cases x <;> rfl
def evalF (T : TypeId → Option TyD) (m : Bool) (s : St) (op : Op) : Ev V :=
  match evalQ T m s op with
  | some (C, x) => forceV C x
  | none => none
theorem evalF_eq (T : TypeId → Option TyD) (m : Bool) (s : St) (op : Op) : evalF T m s op = evalQ T m s op := by
  unfold evalF
  split
  · rename_i C x h; rw [forceV_eq, h]
  · rename_i h; rw [h]

theorem le2 {α β : Type} {e : α × β → List D} {cs : List D} {a : α} {b : β} (h : LeL cs (e (a, b))) : LeL cs (e (a, b)) := h
theorem le3 {α β γ : Type} {e : α × β × γ → List D} {cs : List D} {a : α} {b : β} {c : γ} (h : LeL cs (e (a, b, c))) : LeL cs (e (a, b, c)) := h

@[reducible] def eI (k : IntKind) (x : Int) : List D := [.int k x]
@[reducible] def eN (k : IntKind) (x : Nat) : List D := [.int k (x : Int)]
@[reducible] def u32s (l : List Nat) : D := .sl 1 (eN .u32) 0 l
@[reducible] def i64s (l : List Int) : D := .sl 1 (eI .i64) 0 l
theorem leN {k : IntKind} {x : Int} (h : 0 ≤ x) : LeL [.int k x] (eN k x.toNat) := by
  rw [eN, Int.toNat_of_nonneg h]; exact LeL.refl _
theorem boolFits_of {dd : TyD} {b : Bool} (h : TypeDesc.isBool dd.desc = true) : boolFits dd (.bool b) := h
theorem iv {k : IntKind} {a b : Int} (h : a = b) : V.d (.int k a) = V.d (.int k b) := by rw [h]
theorem i64max : IntKind.i64.max = 9223372036854775807 := rfl
theorem sc {C : Prop} (h : C := by first | ((repeat' (first | exact trivial | apply And.intro | omega | exact Go.Vw.boolFits_of rfl | decide | with_reducible rfl | with_reducible assumption | (with_reducible show (_ : Nat) = _; exact rfl) | (simp only [IntKind.bits, Go.Vw.i64max, Go.Vw.plus0_eq, List.length_append, List.length_cons, List.length_nil, List.length_set, List.length_replicate, List.length_take, List.length_drop, List.length_map, List.length_range] <;> omega))); done) | fail) : C := h
theorem LeD.eqi {k : IntKind} {x y : Int} (h : x = y) : LeD (.int k x) (.int k y) := by subst h; exact LeD.refl _
theorem leEq {k : IntKind} {x : Int} {n : Nat} (h : x = (n : Int)) : LeL [.int k x] (eN k n) := by subst h; exact LeL.refl _
theorem leEqI {k : IntKind} {x y : Int} (h : x = y) : LeL [.int k x] (eI k y) := by subst h; exact LeL.refl _
theorem LeD.full {sz : Nat} {α : Type} {e : α → List D} {z : α} {l : List α} : LeD (.sl sz e z (cut 0 l.length l)) (.sl sz e z l) := by
  rw [cut_all]; exact LeD.refl _
theorem LeD.tk0 {sz n : Nat} {α : Type} {e : α → List D} {z : α} {l : List α} : LeD (.sl sz e z (cut 0 n l)) (.sl sz e z (l.take n)) := by
  rw [cut_zero]; exact LeD.refl _
theorem leB {x : Int} (h : 0 ≤ x ∧ x < 256) : LeL [.int .u8 x] (eB (UInt8.ofNat x.toNat)) := by
  have : ((UInt8.ofNat x.toNat).toNat : Int) = x := by
    rw [UInt8.toNat_ofNat']
    have : x.toNat % 2 ^ 8 = x.toNat := Nat.mod_eq_of_lt (by omega)
    rw [this]; omega
  rw [eB, this]; exact LeL.refl _
theorem LeD.cutAll {sz n : Nat} {α : Type} {e : α → List D} {z : α} {l : List α} (h : n = l.length) : LeD (.sl sz e z (cut 0 n l)) (.sl sz e z l) := by
  subst h; exact LeD.full
theorem leL {xs ys : List D} (h : LeL xs ys := by
  first
  | with_reducible exact Go.Vw.LeL.refl _
  | exact Go.Vw.leB (by omega)
  | exact Go.Vw.leN (by omega)
  | exact Go.Vw.LeL.refl _
  | exact Go.Vw.leEq (by omega)
  | exact Go.Vw.leEqI (by omega)
  | ((repeat' (first | exact Go.Vw.LeD.refl _ | exact Go.Vw.LeL.nil | apply Go.Vw.LeL.cons | exact Go.Vw.LeD.nils | apply Go.Vw.LeD.agg | exact Go.Vw.LeD.lit rfl Go.Vw.LeR.nil | (refine Go.Vw.LeD.lit rfl (Go.Vw.LeR.cons rfl ?_ ?_)) | exact Go.Vw.LeL.refl _ | exact Go.Vw.LeR.nil | (refine Go.Vw.LeR.cons rfl ?_ ?_))); done)
  | (refine Go.Vw.le3 ?_; (repeat' (first | exact Go.Vw.LeD.refl _ | exact Go.Vw.LeL.nil | apply Go.Vw.LeL.cons | exact Go.Vw.LeD.nils | apply Go.Vw.LeD.agg)); done)
  | (refine Go.Vw.le2 ?_; (repeat' (first | exact Go.Vw.LeD.refl _ | exact Go.Vw.LeL.nil | apply Go.Vw.LeL.cons | exact Go.Vw.LeD.nils | apply Go.Vw.LeD.agg)); done)
  | fail) : LeL xs ys := h
theorem leT {xs ys : List D} (h : LeT xs ys := by
  first
  | ((repeat' (first | exact Go.Vw.LeD.full | exact Go.Vw.LeD.tk0 | exact Go.Vw.LeD.cutAll Go.Vw.sc | exact Go.Vw.LeD.refl _ | exact Go.Vw.LeT.nil | exact Go.Vw.LeD.eqi (by omega) | apply Go.Vw.LeT.cons | exact Go.Vw.LeD.nils | (refine Go.Vw.LeD.agg ?_; exact Go.Vw.leL) | (refine Go.Vw.LeD.lit rfl ?_; repeat' (first | exact Go.Vw.LeR.nil | refine Go.Vw.LeR.cons rfl Go.Vw.leL ?_)) | (refine Go.Vw.LeD.fn ?_; exact Go.Vw.leL) | (refine Go.Vw.LeD.ptr ?_ _; exact Go.Vw.leL))); done)
  | fail) : LeT xs ys := h
theorem src_lit {X : Ctx} {s : St} {sz n : Nat} {α : Type} {e : α → List D} {rows : List (List D)} {a : α} {l : List α} (hn : rows.length = n) (h : LeR sz rows e (a :: l)) : SrcOk X s (.d (.sl sz (nth [] rows) 0 (iota n 0))) sz e (a :: l) := src_data (z := a) (LeD.lit hn h)
theorem srcOk {X : Ctx} {s : St} {y : V} {sz : Nat} {α : Type} {e : α → List D} {l : List α} (h : SrcOk X s y sz e l := by
  first
  | exact Go.Vw.src_data (Go.Vw.LeD.refl _)
  | exact Go.Vw.src_lit rfl (Go.Vw.LeR.cons rfl Go.Vw.leL Go.Vw.LeR.nil)
  | exact Go.Vw.src_lit rfl (Go.Vw.LeR.cons rfl Go.Vw.leL (Go.Vw.LeR.cons rfl Go.Vw.leL Go.Vw.LeR.nil))
  | exact Go.Vw.src_data Go.Vw.LeD.nils
  | exact Go.Vw.src_all rfl rfl
  | exact Go.Vw.src_own rfl
  | fail) : SrcOk X s y sz e l := h

theorem tt : true = true := rfl
theorem ff : false = false := rfl
theorem stt : some true = some true := rfl
theorem sff : some false = some false := rfl
def opK : Op → Nat
  | .store .. => 1
  | .alloc _ => 2
  | .box _ _ => 2
  | .call ⟨.builtin .append, _, _⟩ => 3
  | .call ⟨.builtin _, _, _⟩ => 0
  | .call _ => 6
  | .makeSlice .. => 4
  | .buildSlice .. => 5
  | _ => 0
section
variable {X : Ctx} {all : Array Oper} {s : St} {o : Oper}
theorem m_q (m : Bool) (hg : gd all s o = some true) {C : Prop} {x : V} (hq : evalF X.T m s o.op = some (C, x)) (hC : C) : M1 X all s o x := m_quiet X.ok m hg (by rw [evalF_eq] at hq; exact hq) hC
variable {Q : Exit → St → Prop} {rest : List Oper}
theorem stepM {x : V} {d : Tmp} (hdst : o.dst = some d) (hd : dstOk X.N (some d) = true) (h : M1 X all s o x) (k : awpL X all rest Q (s.put (some d) x)) : awpL X all (o :: rest) Q s := by
  rw [← hdst] at hd k; exact awpL_step (h.e1 hd) k
theorem stepQ {d : Tmp} {C : Prop} {x : V} (m : Bool) (hk : Nat.beq (opK o.op) 0 = true) (hg : gd all s o = some true) (hdst : o.dst = some d) (hd : dstOk X.N (some d) = true) (hq : evalF X.T m s o.op = some (C, x)) (hC : C) (k : awpL X all rest Q (s.put (some d) x)) : awpL X all (o :: rest) Q s := stepM hdst hd (m_q m hg hq hC) k
theorem stepOff {d : Tmp} (hg : gd all s o = some false) (hdst : o.dst = some d) (hd : dstOk X.N (some d) = true) (k : awpL X all rest Q (s.put (some d) (.d (.tup [])))) : awpL X all (o :: rest) Q s := stepM hdst hd (m_off hg) k
theorem stepM0 {x : V} (hk : Nat.beq (opK o.op) 0 = true) (hdst : o.dst = none) (h : M1 X all s o x) (k : awpL X all rest Q s) : awpL X all (o :: rest) Q s := by
  refine awpL_step (h.e1 (by rw [hdst]; rfl)) ?_; rw [hdst]; exact k
theorem stepE1 {s' : St} {x : V} {d : Tmp} (hkk : Nat.beq (opK o.op) 2 = true) (hdst : o.dst = some d) (hg : gd all s o = some true) (hd : dstOk X.N (some d) = true) (hK : X.K.contains d = false) (h : evalE X.T s (some d) o.op = some (some x, s')) (k : awpL X all rest Q (s'.put (some d) x)) : awpL X all (o :: rest) Q s := by
  obtain ⟨dst, op, ty, pos, after, g⟩ := o
  cases hdst
  exact awpL_step (e_eff X.ok hg hd (fun d' e => by cases e; exact hK) h) k
theorem stepE0 {s' : St} (hkk : Nat.beq (opK o.op) 1 = true) (hdst : o.dst = none) (hg : gd all s o = some true) (h : evalE X.T s none o.op = some (none, s')) (k : awpL X all rest Q s') : awpL X all (o :: rest) Q s := by
  obtain ⟨dst, op, ty, pos, after, g⟩ := o
  cases hdst
  exact awpL_step (e_eff X.ok hg rfl (fun d' e => by cases e) h) k
end

def SrcZ (X : Ctx) (s : St) (y : V) (sz : Nat) {α : Type} (e : α → List D) (z : α) (l : List α) : Prop := SrcOk X s y sz e l
theorem srcz_sl {X : Ctx} {s : St} {y : D} {sz : Nat} {α : Type} {e : α → List D} {z : α} {l : List α} (h : y = .sl sz e z l) : SrcZ X s (.d y) sz e z l := by
  subst h; exact src_data (LeD.refl _)
theorem srcz_lit {X : Ctx} {s : St} {y : D} {sz : Nat} {α : Type} [Inhabited α] {e : α → List D} {l : List α} (h : SrcOk X s (.d y) sz e l) : SrcZ X s (.d y) sz e default l := h
theorem srcz_all {X : Ctx} {s : St} {k n : Nat} {ty ty' : TypeId} {sz : Nat} {α : Type} {e : α → List D} {z : α} {l : List α} (hk : s.blk k = some (.data ty' sz e z l)) (hn : n = l.length) : SrcZ X s (.own k 0 n ty sz) sz e z l := src_all hk hn
theorem srcz_own {X : Ctx} {s : St} {k o n : Nat} {ty ty' : TypeId} {sz : Nat} {α : Type} {e : α → List D} {z : α} {l : List α} (hk : s.blk k = some (.data ty' sz e z l)) : SrcZ X s (.own k o n ty sz) sz e z (cut o n l) := src_own hk
theorem srcZ {X : Ctx} {s : St} {y : V} {sz : Nat} {α : Type} {e : α → List D} {z : α} {l : List α} (h : SrcZ X s y sz e z l := by
  first
  | exact Go.Vw.srcz_sl rfl
  | exact Go.Vw.srcz_lit (Go.Vw.src_lit rfl (Go.Vw.LeR.cons rfl Go.Vw.leL Go.Vw.LeR.nil))
  | exact Go.Vw.srcz_lit (Go.Vw.src_lit rfl (Go.Vw.LeR.cons rfl Go.Vw.leL (Go.Vw.LeR.cons rfl Go.Vw.leL Go.Vw.LeR.nil)))
  | exact Go.Vw.srcz_all rfl rfl
  | exact Go.Vw.srcz_own rfl
  | fail) : SrcZ X s y sz e z l := h
section
variable {X : Ctx} {all : Array Oper} {s : St} {o : Oper} {Q : Exit → St → Prop} {rest : List Oper} {d : Tmp} {α : Type} {en : α → List D} {z : α} {l : List α} {td ed : TyD}
theorem stepStore {t ety : TypeId} {addr x : Operand} {k sz i f : Nat} {y : D} {cs : List D} {a' : α} (hkk : Nat.beq (opK o.op) 1 = true) (hop : o.op = .store t addr x) (hdst : o.dst = none) (hg : gd all s o = some true) (ht : X.T t = some td) (ha : s.opd addr = .eptr k sz i f) (hk : s.blk k = some (.data ety sz en z l)) (hx : s.opd x = .d y) (hst : ((V.d y).storable && Nat.beq y.cells.length td.size) = true) (hp : putL (en (l.getD i z)) f y.cells = some cs) (hle : LeL cs (en a')) (hi : i < l.length) (r : awpL X all rest Q (s.withBlk k (.data ety sz en z (l.set i a')))) : awpL X all (o :: rest) Q s := by
  obtain ⟨dst, op, ty, pos, after, g⟩ := o
  cases hop; cases hdst
  exact awpL_step (e_store X.ok hg ht ha hk hx hst hp hle hi) r
theorem stepStoreV {t ety : TypeId} {addr x : Operand} {k i k2 o2 n2 : Nat} {ty2 : TypeId} {sz2 : Nat} (hkk : Nat.beq (opK o.op) 1 = true) (hop : o.op = .store t addr x) (hdst : o.dst = none) (hg : gd all s o = some true) (hx : s.opd x = .own k2 o2 n2 ty2 sz2) (ht : X.T t = some td) (ha : s.opd addr = .eptr k 1 i 0) (hk : s.blk k = some (.data ety 1 en z l)) (hsz : Nat.beq td.size 1 = true) (hi : i < l.length) (r : awpL X all rest Q (s.withBlk k (.hole ety 1 en z l i (.own k2 o2 n2 ty2 sz2)))) : awpL X all (o :: rest) Q s := by
  obtain ⟨dst, op, ty, pos, after, g⟩ := o
  cases hop; cases hdst
  exact awpL_step (e_storeV X.ok hg ht ha hk hx hsz hi) r
theorem stepApp {t : TypeId} {c : Call} {x y : Operand} {e : TypeId} {k n : Nat} {l2 : List α} (hkk : Nat.beq (opK o.op) 3 = true) (hop : o.op = .call c) (hc : c = ⟨.builtin .append, #[x, y], #[t, t]⟩) (hdst : o.dst = some d) (hg : gd all s o = some true) (hd : dstOk X.N (some d) = true) (ht : X.T t = some td) (hds : td.desc = .slice e) (he : X.T e = some ed) (hx : s.opd x = .own k 0 n e ed.size) (hK : X.K.contains k = false) (hk : s.blk k = some (.data e ed.size en z l)) (hz : zeroOk ed = true) (hn : n = l.length) (hy : SrcOk X s (s.opd y) ed.size en l2) (hb : l.length + l2.length ≤ 9223372036854775807 ∧ (l.length + l2.length) * ed.bytes ≤ 140737488355328) (r : awpL X all rest Q ((s.new k (.data e ed.size en z (l ++ l2))).put (some d) (.own k 0 (l ++ l2).length e ed.size))) : awpL X all (o :: rest) Q s := by
  obtain ⟨dst, op, ty, pos, after, g⟩ := o
  cases hop; cases hdst; subst hc
  exact awpL_step (e_append X.ok hg hd ht hds he hK hx hk hn hy hz hb) r
theorem stepAppNil {t : TypeId} {c : Call} {x y : Operand} {e : TypeId} {l2 : List α} (hkk : Nat.beq (opK o.op) 3 = true) (hop : o.op = .call c) (hc : c = ⟨.builtin .append, #[x, y], #[t, t]⟩) (hdst : o.dst = some d) (hg : gd all s o = some true) (hd : dstOk X.N (some d) = true) (ht : X.T t = some td) (hds : td.desc = .slice e) (he : X.T e = some ed) (hx : s.opd x = .d .nils) (hK : X.K.contains d = false) (hz : zeroOk ed = true) (hy : SrcZ X s (s.opd y) ed.size en z l2) (hb : l2.length ≤ 9223372036854775807 ∧ l2.length * ed.bytes ≤ 140737488355328) (r : awpL X all rest Q (((s.new d (.data e ed.size en z [])).new d (.data e ed.size en z l2)).put (some d) (.own d 0 l2.length e ed.size))) : awpL X all (o :: rest) Q s := by
  obtain ⟨dst, op, ty, pos, after, g⟩ := o
  cases hop; cases hdst; subst hc
  exact awpL_step (e_appnil X.ok hg hd ht hds he hK hx hy hz hb) r
theorem stepMake {mm : Bool} {t e : TypeId} {lo co : Operand} {n m : Int} {C : Prop} {j : Nat} (hkk : Nat.beq (opK o.op) 4 = true) (hop : o.op = .makeSlice t lo co) (hdst : o.dst = some d) (hg : gd all s o = some true) (hd : dstOk X.N (some d) = true) (hK : X.K.contains d = false) (ht : X.T t = some td) (hds : td.desc = .slice e) (he : X.T e = some ed) (hl : intOfV (s.opd lo) = some n) (hc : intOfV (s.opd co) = some m) (hn : natOf mm n = some (C, ⟨j⟩)) (hz : zeroOk ed = true) (le : LeL (D.ofV ed.zero).cells (en z)) (hC : C) (hb : n ≤ m ∧ m * ed.bytes ≤ 140737488355328 ∧ m ≤ 9223372036854775807) (r : awpL X all rest Q ((s.new d (.data e ed.size en z (List.replicate j z))).put (some d) (.own d 0 j e ed.size))) : awpL X all (o :: rest) Q s := by
  obtain ⟨dst, op, ty, pos, after, g⟩ := o
  cases hop; cases hdst
  exact awpL_step (e_make X.ok hg hd hK ht hds he hl hc hn hz le hC hb) r
theorem stepLit {e : TypeId} {sz len : Nat} {rows : List (List D)} (hkk : Nat.beq (opK o.op) 5 = true) (h : evalB X.T s o.op = some (e, sz, len, rows)) (hdst : o.dst = some d) (hg : gd all s o = some true) (hd : dstOk X.N (some d) = true) (k : awpL X all rest Q (s.put (some d) (.d (.sl sz (nth [] rows) 0 (iota len 0))))) : awpL X all (o :: rest) Q s := stepM hdst hd (m_lit X.ok hg h) k
end

def litApp (d : Tmp) : List Oper → Bool
  | [] => false
  | o :: r => match o.op with
    | .call ⟨.builtin .append, args, _⟩ => (match args.toList with | .tmp t :: _ => Nat.beq t d | _ => false) || litApp d r
    | _ => litApp d r
section
variable {X : Ctx} {all : Array Oper} {s : St} {o : Oper} {Q : Exit → St → Prop} {pre rest : List Oper} {d : Tmp} {α : Type} {en : α → List D} {z : α} {l l2 : List α} {td ed : TyD} {d1 d2 : D}
theorem stepLitF {e : TypeId} {sz len : Nat} {rows : List (List D)} (hkk : Nat.beq (opK o.op) 5 = true) (hdst : o.dst = some d) (hla : litApp d rest = true) (h : evalB X.T s o.op = some (e, sz, len, rows)) (hg : gd all s o = some true) (hd : dstOk X.N (some d) = true) (k : awpL X all rest Q (s.put (some d) (.d (.full (.sl sz (nth [] rows) 0 (iota len 0)))))) : awpL X all (o :: rest) Q s := stepM hdst hd (m_litF X.ok hg h) k
theorem m_appF' {t : TypeId} {c : Call} {x y : Operand} {e : TypeId} (hop : o.op = .call c) (hc : c = ⟨.builtin .append, #[x, y], #[t, t]⟩) (hg : gd all s o = some true) (ht : X.T t = some td) (hds : td.desc = .slice e) (he : X.T e = some ed) (hx : s.opd x = .d (.full d1)) (hz : zeroOk ed = true) (hy : s.opd y = .d d2) (le2 : LeD d2 (.sl ed.size en z l2)) (le1 : LeD d1 (.sl ed.size en z l)) (hb : l.length + l2.length ≤ 9223372036854775807 ∧ (l.length + l2.length) * ed.bytes ≤ 140737488355328) : M1 X all s o (.d (.sl ed.size en z (l ++ l2))) := by
  subst hc; exact m_appF X.ok hop hg ht hds he hx le1 hy le2 hz hb
theorem stepB2S {src dst e : TypeId} {y : Operand} {sd dd : TyD} {l : List UInt8} (hop : o.op = .convert src dst y) (hdst : o.dst = some d) (hs : X.T src = some sd) (hsd : sd.desc = .slice e) (hdt : X.T dst = some dd) (hdd : dd.desc = .string) (he : X.T e = some ed) (hed : ed.desc = .int .u8) (hg : gd all s o = some true) (hd : dstOk X.N (some d) = true) (hy : s.opd y = .d d1) (le : LeD d1 (.sl 1 eB 0 l)) (k : awpL X all rest Q (s.put (some d) (.d (.str l)))) : awpL X all (o :: rest) Q s := stepM hdst hd (m_b2s X.ok hop hg hs hsd he hed hdt hdd hy le) k
theorem stepB2SO {src dst e : TypeId} {y : Operand} {sd dd : TyD} {l : List UInt8} {k o1 n : Nat} {ty ty' : TypeId} {z : UInt8} (hop : o.op = .convert src dst y) (hdst : o.dst = some d) (hs : X.T src = some sd) (hsd : sd.desc = .slice e) (hdt : X.T dst = some dd) (hdd : dd.desc = .string) (he : X.T e = some ed) (hed : ed.desc = .int .u8) (hg : gd all s o = some true) (hd : dstOk X.N (some d) = true) (hy : s.opd y = .own k o1 n ty 1) (hk : s.blk k = some (.data ty' 1 eB z l)) (r : awpL X all rest Q (s.put (some d) (.d (.str (cut o1 n l))))) : awpL X all (o :: rest) Q s := stepM hdst hd (m_b2sO X.ok hop hg hs hsd he hed hdt hdd hy hk) r
theorem stepS2B {src dst e : TypeId} {y : Operand} {sd dd : TyD} {l : List UInt8} (hop : o.op = .convert src dst y) (hdst : o.dst = some d) (hs : X.T src = some sd) (hsd : sd.desc = .string) (hdt : X.T dst = some dd) (hdd : dd.desc = .slice e) (he : X.T e = some ed) (hed : ed.desc = .int .u8) (hg : gd all s o = some true) (hd : dstOk X.N (some d) = true) (hy : s.opd y = .d (.str l)) (k : awpL X all rest Q (s.put (some d) (.d (.sl 1 eB 0 l)))) : awpL X all (o :: rest) Q s := stepM hdst hd (m_s2b X.ok hop hg hs hsd hdt hdd he hed hy) k
theorem stepAppF {t : TypeId} {c : Call} {x y : Operand} {e : TypeId} (hkk : Nat.beq (opK o.op) 3 = true) (hop : o.op = .call c) (hc : c = ⟨.builtin .append, #[x, y], #[t, t]⟩) (hdst : o.dst = some d) (hx : s.opd x = .d (.full d1)) (hg : gd all s o = some true) (hd : dstOk X.N (some d) = true) (ht : X.T t = some td) (hds : td.desc = .slice e) (he : X.T e = some ed) (hz : zeroOk ed = true) (hy : s.opd y = .d d2) (le2 : LeD d2 (.sl ed.size en z l2)) (le1 : LeD d1 (.sl ed.size en z l)) (hb : l.length + l2.length ≤ 9223372036854775807 ∧ (l.length + l2.length) * ed.bytes ≤ 140737488355328) (k : awpL X all rest Q (s.put (some d) (.d (.sl ed.size en z (l ++ l2))))) : awpL X all (o :: rest) Q s := stepM hdst hd (m_appF' hop hc hg ht hds he hx hz hy le2 le1 hb) k
end

/-! ## Ways out -/
section
variable {X : Ctx} {Q : Exit → St → Prop} {K : St → Prop} {s : St} {id n : Nat}
theorem thenN (h : K s) : andThen K Q .normal s := h
theorem thenX (h : Q (.exit n) s) : andThen K Q (.exit n) s := h
theorem thenR (h : Q .ret s) : andThen K Q .ret s := h
theorem inN (h : Q .normal s) : inBlock id Q .normal s := h
theorem inR (h : Q .ret s) : inBlock id Q .ret s := h
theorem inX (h : Q .normal s) : inBlock id Q (.exit id) s := by simp only [inBlock, Nat.beq_refl]; exact h
theorem inY (he : Nat.beq n id = false) (h : Q (.exit n) s) : inBlock id Q (.exit n) s := by simp only [inBlock, he]; exact h
end

/-! ## The part of a drawn region whose order is open, then the rest -/

def awpR (ex : Bool) (X : Ctx) (all : Array Oper) (pre rest : List Oper) (Q : Exit → St → Prop) (s : St) : Prop := ∃ s1, PRun ex X all pre s s1 ∧ awpL X all rest Q s1

section
variable {ex : Bool} {X : Ctx} {all : Array Oper} {Q : Exit → St → Prop} {s : St} {o : Oper} {pre rest : List Oper}
theorem awpR_nil (h : awpL X all rest Q s) : awpR ex X all [] rest Q s := ⟨s, .nil, h⟩
theorem isMove_no (h : regOp o.op = false) : isMove o = false := by
  unfold isMove
  rw [h]; rfl
theorem isAlloc_no (h : ∀ e, o.op ≠ .alloc e) : isAlloc o = false := by
  unfold isAlloc
  split
  · rename_i e h1; exact absurd h1 (h e)
  · rfl
theorem isMove_off (h : gd all s o = some false) : isMove o = false := by
  unfold isMove
  have : o.guard ≠ none := fun e => by unfold gd at h; rw [e] at h; cases h
  cases hg : o.guard with
  | none => exact absurd hg this
  | some p => simp
theorem regOp_k {op : Op} (h : regOp op = true) : opK op = 0 := by
  cases op with
  | call c =>
    obtain ⟨cal, args, tys⟩ := c
    cases cal with
    | builtin b => cases b <;> first | rfl | cases h
    | value f => cases h
    | invoke r m => cases h
  | _ => first | rfl | cases h
theorem isMove_k {n : Nat} (h : Nat.beq (opK o.op) n = true) (hn : n ≠ 0) : isMove o = false := isMove_no (by
  have hk := Nat.eq_of_beq_eq_true h
  cases hr : regOp o.op with
  | false => rfl
  | true => rw [regOp_k hr] at hk; exact absurd hk.symm hn)
theorem isMove_call {c : Call} (h : o.op = .call c) (hb : regOp (.call c) = false) : isMove o = false := isMove_no (by rw [h]; exact hb)
theorem callee_reg {c : Call} {x : FuncId × List V} (h : calleeOf s c = some x) : regOp (.call c) = false := by
  unfold calleeOf at h
  unfold regOp
  split at h
  · rename_i y e; simp only [e]
  · cases h
theorem isMove_conv {a b : TypeId} {x : Operand} (h : o.op = .convert a b x) : isMove o = false := isMove_no (by rw [h]; rfl)
theorem isLoad_k {n : Nat} (h : Nat.beq (opK o.op) n = true) (hn : n ≠ 0) : isLoad o = false := by
  unfold isLoad
  have hk := Nat.eq_of_beq_eq_true h
  revert hk
  cases o.op <;> intro hk <;> first | rfl | exact absurd hk.symm hn
theorem isLoad_call {c : Call} (h : o.op = .call c) : isLoad o = false := by unfold isLoad; rw [h]; rfl
theorem isLoad_conv {a b : TypeId} {x : Operand} (h : o.op = .convert a b x) : isLoad o = false := by unfold isLoad; rw [h]; rfl
theorem isLoad_off (h : gd all s o = some false) : isLoad o = false := by
  unfold isLoad
  have : o.guard ≠ none := fun e => by unfold gd at h; rw [e] at h; cases h
  cases hg : o.guard with
  | none => exact absurd hg this
  | some p => simp
theorem chkLd_not {k : Option Nat} (h : isLoad o = false) : chkLd all k o = true := by unfold chkLd; rw [h]; rfl
theorem isAlloc_k {n : Nat} (h : Nat.beq (opK o.op) n = true) (hn : n ≠ 2) : isAlloc o = false := isAlloc_no fun y e => by rw [e] at h; exact hn (Nat.eq_of_beq_eq_true h).symm
theorem isAlloc_call {c : Call} (h : o.op = .call c) : isAlloc o = false := isAlloc_no fun y e => by rw [h] at e; cases e
theorem isAlloc_conv {a b : TypeId} {x : Operand} (h : o.op = .convert a b x) : isAlloc o = false := isAlloc_no fun y e => by rw [h] at e; cases e
theorem awpR_cons {x : D} {d : Tmp} (hn : isMove o = false) (hna : isAlloc o = false) (hnl : isLoad o = false) (hdst : o.dst = some d) (hd : dstOk X.N (some d) = true) (h : M1 X all s o (.d x)) (k : awpR ex X all pre rest Q (s.put (some d) (.d x))) : awpR ex X all (o :: pre) rest Q s := by
  rw [← hdst] at hd k
  obtain ⟨s1, h1, h2⟩ := k
  exact ⟨s1, .cons hd h (fun hm => by rw [hn] at hm; cases hm) hna rfl (fun hm => by rw [hnl] at hm; cases hm) (fun _ => chkLd_not hnl) h1, h2⟩
theorem opd_agree {s' : St} {y : Operand} (hy : y ∈ o.op.operands.toList) (h : ∀ t ∈ o.looksAt all, s'.tmps t = s.tmps t) : s'.opd y = s.opd y := by
  cases y with
  | tmp t => exact h t (by unfold Oper.looksAt; rw [List.mem_append]; left; rw [List.mem_filterMap]; exact ⟨_, hy, rfl⟩)
  | const v => rfl
  | global g => rfl
  | func f => rfl
theorem gd_agree {s' : St} (h : ∀ t ∈ o.looksAt all, s'.tmps t = s.tmps t) : gd all s' o = gd all s o := by
  unfold gd
  cases hg : o.guard with
  | none => rfl
  | some p =>
    obtain ⟨g, want⟩ := p
    simp only
    cases hd : (all[g]?).bind (·.dst) with
    | none => rfl
    | some d => simp only [h d (by unfold Oper.looksAt; rw [List.mem_append]; right; simp [hg, hd])]
theorem evalQ_move {T : TypeId → Option TyD} {m : Bool} {s' : St} (hm : isMove o = true) (h : ∀ t ∈ o.looksAt all, s'.tmps t = s.tmps t) : evalQ T m s' o.op = evalQ T m s o.op := by
  have hop := fun y hy => opd_agree (s := s) (s' := s') (o := o) (all := all) (y := y) hy h
  unfold isMove at hm
  rw [Bool.and_eq_true] at hm
  have hr := hm.1
  unfold regOp at hr
  split at hr
  · rename_i y e; rw [e] at hop ⊢; simp only [evalQ, hop y (by simp [Op.operands])]
  · rename_i y e; rw [e] at hop ⊢; simp only [evalQ, hop y (by simp [Op.operands])]
  · rename_i y i e; rw [e] at hop ⊢; simp only [evalQ, hop y (by simp [Op.operands])]
  · rename_i a b x y c e; rw [e] at hop ⊢; simp only [evalQ, hop x (by simp [Op.operands]), hop y (by simp [Op.operands])]
  · rename_i t x i e; rw [e] at hop ⊢; simp only [evalQ, hop x (by simp [Op.operands]), hop i (by simp [Op.operands])]
  · rename_i t x f e; rw [e] at hop ⊢; simp only [evalQ, hop x (by simp [Op.operands])]
  · rename_i c e
    rw [e] at hop ⊢
    obtain ⟨cal, args, tys⟩ := c
    cases cal with
    | builtin b =>
      have h2 : ∀ y ∈ args.toList, s'.opd y = s.opd y := fun y hy => hop y (by simp only [Op.operands, Call.operands]; simpa using hy)
      simp only [evalQ]
      cases hl : args.toList with
      | nil => cases b <;> cases tys[0]? <;> rfl
      | cons x t => cases t with
        | nil => cases b <;> cases tys[0]? <;> first | rfl | (dsimp only; rw [h2 x (by rw [hl]; simp)])
        | cons y u => cases u with
          | nil => cases b <;> cases tys[0]? <;> first | rfl | (dsimp only; rw [h2 x (by rw [hl]; simp), h2 y (by rw [hl]; simp)])
          | cons z u => cases b <;> cases tys[0]? <;> rfl
    | value f => rfl
    | invoke r m => rfl
  · cases hr
theorem evalQ_load {T : TypeId → Option TyD} {m : Bool} {s' : St} {r : Prop × V} (hm : isLoad o = true) (hq : evalQ T m s o.op = some r) (h : ∀ t ∈ o.looksAt all, s'.tmps t = s.tmps t) (hb : ∀ k b, keyOf s o = some k → s.blk k = some b → s'.blk k = some b) : evalQ T m s' o.op = some r := by
  have hop := fun y hy => opd_agree (s := s) (s' := s') (o := o) (all := all) (y := y) hy h
  unfold isLoad at hm
  rw [Bool.and_eq_true] at hm
  have hr := hm.1
  split at hr
  · rename_i t y e
    unfold keyOf at hb
    rw [e] at hop hq hb ⊢
    simp only [evalQ, hop y (by simp [Op.operands])] at hq hb ⊢
    cases hT : T t with
    | none => rw [hT] at hq; cases hq
    | some td =>
      rw [hT] at hq
      cases hy : s.opd y with
      | ptr k o1 =>
        rw [hy] at hq hb
        cases hk : s.blk k with
        | none => simp only [hk] at hq; cases hq
        | some b => simp only [hb k b rfl hk]; simp only [hk] at hq; exact hq
      | eptr k sz i o1 =>
        rw [hy] at hq hb
        cases hk : s.blk k with
        | none => simp only [hk] at hq; cases hq
        | some b => simp only [hb k b rfl hk]; simp only [hk] at hq; exact hq
      | d x => rw [hy] at hq; cases x <;> first | exact hq | cases hq
      | _ => rw [hy] at hq; cases hq
  · cases hr
theorem awpR_consQ {x : V} {d : Tmp} (m : Bool) {C : Prop} (hg : gd all s o = some true) (hq : evalF X.T m s o.op = some (C, x)) (hC : C) (hf : chkV all x = true) (hx : (!ex || chkLd all (keyOf s o) o) = true) (hdst : o.dst = some d) (hd : dstOk X.N (some d) = true) (k : awpR ex X all pre rest Q (s.put (some d) x)) : awpR ex X all (o :: pre) rest Q s := by
  rw [← hdst] at hd k
  obtain ⟨s1, h1, h2⟩ := k
  refine ⟨s1, .cons hd (m_q m hg hq hC) (fun hm s' hs' => m_q m ((gd_agree hs').trans hg) ?_ hC) (isAlloc_no fun e he => ?_) hf (fun hm s' hs' hb => m_q m ((gd_agree hs').trans hg) ?_ hC) (fun e => by subst e; simpa using hx) h1, h2⟩
  · rw [evalF_eq] at hq ⊢
    rw [evalQ_move hm hs']; exact hq
  · rw [evalF_eq, he] at hq
    simp only [evalQ] at hq
    cases hq
  · rw [evalF_eq] at hq ⊢
    exact evalQ_load hm hq hs' hb
theorem awpR_store {k : Nat} {b b0 : Blk} (hs : isStore o = true) (hdst : o.dst = none) (hk : s.blk k = some b0) (hl : b.ln = b0.ln) (hkk : chkK all o k = true) (hf : chkB all b = true) (h : S1 X all s o k b) (hx : (!ex || chkSt all o k) = true) (kk : awpR ex X all pre rest Q (s.withBlk k b)) : awpR ex X all (o :: pre) rest Q s := by
  obtain ⟨s1, h1, h2⟩ := kk
  exact ⟨s1, .store hs hdst hk hl hkk hf h (fun e => by subst e; simpa using hx) h1, h2⟩
theorem stepRStore {α : Type} {en : α → List D} {z : α} {l : List α} {td : TyD} {t ety : TypeId} {addr x : Operand} {k sz i f : Nat} {y : D} {cs : List D} {a' : α} (hkk : Nat.beq (opK o.op) 1 = true) (hop : o.op = .store t addr x) (hdst : o.dst = none) (hg : gd all s o = some true) (ht : X.T t = some td) (ha : s.opd addr = .eptr k sz i f) (hk : s.blk k = some (.data ety sz en z l)) (hx : s.opd x = .d y) (hst : ((V.d y).storable && Nat.beq y.cells.length td.size) = true) (hp : putL (en (l.getD i z)) f y.cells = some cs) (hle : LeL cs (en a')) (hi : i < l.length) (hck : chkK all o k = true) (hxx : (!ex || chkSt all o k) = true) (r : awpR ex X all pre rest Q (s.withBlk k (.data ety sz en z (l.set i a')))) : awpR ex X all (o :: pre) rest Q s := by
  obtain ⟨dst, op, ty, pos, after, g⟩ := o
  cases hop; cases hdst
  refine awpR_store rfl rfl hk (by simp only [Blk.ln, List.length_set]) hck rfl (fun s' hb _ htm => ?_) hxx r
  exact e_store X.ok ((gd_agree htm).trans hg) ht ((opd_agree (by simp [Op.operands]) htm).trans ha) (hb.bl _ _ hk) ((opd_agree (by simp [Op.operands]) htm).trans hx) hst hp hle hi
theorem stepRStoreB {td : TyD} {t ety : TypeId} {addr x : Operand} {k i : Nat} {cs cs' : List V} {xv : V} (hkk : Nat.beq (opK o.op) 1 = true) (hop : o.op = .store t addr x) (hdst : o.dst = none) (hg : gd all s o = some true) (ht : X.T t = some td) (ha : s.opd addr = .ptr k i) (hk : s.blk k = some (.box ety cs)) (hx : s.opd x = xv) (hst : (xv.storable && Nat.beq xv.cells.length td.size) = true) (hp : putL cs i xv.cells = some cs') (hck : chkK all o k = true) (hf : chkB all (.box ety cs') = true) (hxx : (!ex || chkSt all o k) = true) (r : awpR ex X all pre rest Q (s.withBlk k (.box ety cs'))) : awpR ex X all (o :: pre) rest Q s := by
  obtain ⟨dst, op, ty, pos, after, g⟩ := o
  cases hop; cases hdst
  refine awpR_store (b := .box ety cs') rfl rfl hk rfl hck hf (fun s' hb _ htm => ?_) hxx r
  have h1 : s'.opd addr = .ptr k i := (opd_agree (o := ⟨none, .store t addr x, ty, pos, after, g⟩) (all := all) (by simp [Op.operands]) htm).trans ha
  have h2 : s'.opd x = xv := (opd_agree (o := ⟨none, .store t addr x, ty, pos, after, g⟩) (all := all) (by simp [Op.operands]) htm).trans hx
  have he : evalE X.T s' none (.store t addr x) = some (none, s'.withBlk k (.box ety cs')) := by
    simp only [evalE, ht, h1, hb.bl _ _ hk, h2, hst, hp]
  exact e_eff X.ok ((gd_agree htm).trans hg) rfl (fun d e => by cases e) he
theorem stepRAlloc {d : Tmp} {e : TypeId} {ed : TyD} (hkk : Nat.beq (opK o.op) 2 = true) (hop : o.op = .alloc e) (hdst : o.dst = some d) (hgn : o.guard = none) (he : X.T e = some ed) (hst : (V.d (D.ofV ed.zero)).storable = true) (hn : s.blk d = none) (hd : dstOk X.N (some d) = true) (hK : X.K.contains d = false) (hf : chkB all (.box e (V.d (D.ofV ed.zero)).cells) = true) (r : awpR ex X all pre rest Q ((s.withBlk d (.box e (V.d (D.ofV ed.zero)).cells)).put (some d) (.ptr d 0))) : awpR ex X all (o :: pre) rest Q s := by
  obtain ⟨dst, op, ty, pos, after, g⟩ := o
  cases hop; cases hdst; cases hgn
  obtain ⟨s1, h1, h2⟩ := r
  refine ⟨s1, .alloc rfl rfl hn rfl hf (fun s' hs' => ?_) h1, h2⟩
  have hev : evalE X.T s' (some d) (.alloc e) = some (some (.ptr d 0), s'.new d (.box e (V.d (D.ofV ed.zero)).cells)) := by
    simp only [evalE, he, hst]
  have hnew : s'.new d (.box e (V.d (D.ofV ed.zero)).cells) = s'.withBlk d (.box e (V.d (D.ofV ed.zero)).cells) := by unfold St.new; rw [hs'.sub]
  rw [← hnew]
  exact e_eff X.ok (all := all) (o := ⟨some d, .alloc e, ty, pos, after, none⟩) (s := s') rfl hd (fun d' e => by cases e; exact hK) hev
theorem put_self {s : St} {d : Tmp} {x : V} (h : s.tmps d = x) : s.put (some d) x = s := by
  have : (s.put (some d) x).tmps = s.tmps := by
    funext t
    simp only [St.put]
    cases hb : Nat.beq t d with
    | true => have := Nat.eq_of_beq_eq_true hb; subst this; simp [h]
    | false => rfl
  cases s
  simp only [St.put] at this ⊢
  rw [this]
theorem stepRQ {d : Tmp} {C : Prop} {x : V} (m : Bool) (hk : Nat.beq (opK o.op) 0 = true) (hg : gd all s o = some true) (hdst : o.dst = some d) (hd : dstOk X.N (some d) = true) (hq : evalF X.T m s o.op = some (C, x)) (hC : C) (hf : chkV all x = true) (hx : (!ex || chkLd all (keyOf s o) o) = true) (k : awpR ex X all pre rest Q (s.put (some d) x)) : awpR ex X all (o :: pre) rest Q s := awpR_consQ m hg hq hC hf hx hdst hd k
theorem stepROff {d : Tmp} (hg : gd all s o = some false) (hdst : o.dst = some d) (hd : dstOk X.N (some d) = true) (hna : isAlloc o = false) (k : awpR ex X all pre rest Q (s.put (some d) (.d (.tup [])))) : awpR ex X all (o :: pre) rest Q s := awpR_cons (isMove_off hg) hna (isLoad_off hg) hdst hd (m_off hg) k
theorem stepRLit {d : Tmp} {e : TypeId} {sz len : Nat} {rows : List (List D)} (hkk : Nat.beq (opK o.op) 5 = true) (h : evalB X.T s o.op = some (e, sz, len, rows)) (hdst : o.dst = some d) (hg : gd all s o = some true) (hd : dstOk X.N (some d) = true) (k : awpR ex X all pre rest Q (s.put (some d) (.d (.sl sz (nth [] rows) 0 (iota len 0))))) : awpR ex X all (o :: pre) rest Q s := awpR_cons (isMove_k hkk (by decide)) (isAlloc_k hkk (by decide)) (isLoad_k hkk (by decide)) hdst hd (m_lit X.ok hg h) k
theorem stepRLitF {d : Tmp} {e : TypeId} {sz len : Nat} {rows : List (List D)} (hkk : Nat.beq (opK o.op) 5 = true) (hdst : o.dst = some d) (hla : (litApp d pre || litApp d rest) = true) (h : evalB X.T s o.op = some (e, sz, len, rows)) (hg : gd all s o = some true) (hd : dstOk X.N (some d) = true) (k : awpR ex X all pre rest Q (s.put (some d) (.d (.full (.sl sz (nth [] rows) 0 (iota len 0)))))) : awpR ex X all (o :: pre) rest Q s := awpR_cons (isMove_k hkk (by decide)) (isAlloc_k hkk (by decide)) (isLoad_k hkk (by decide)) hdst hd (m_litF X.ok hg h) k
theorem stepRB2S {d : Tmp} {src dst e : TypeId} {y : Operand} {sd ed dd : TyD} {l : List UInt8} {d1 : D} (hop : o.op = .convert src dst y) (hdst : o.dst = some d) (hs : X.T src = some sd) (hsd : sd.desc = .slice e) (hdt : X.T dst = some dd) (hdd : dd.desc = .string) (he : X.T e = some ed) (hed : ed.desc = .int .u8) (hg : gd all s o = some true) (hd : dstOk X.N (some d) = true) (hy : s.opd y = .d d1) (le : LeD d1 (.sl 1 eB 0 l)) (k : awpR ex X all pre rest Q (s.put (some d) (.d (.str l)))) : awpR ex X all (o :: pre) rest Q s := awpR_cons (isMove_conv hop) (isAlloc_conv hop) (isLoad_conv hop) hdst hd (m_b2s X.ok hop hg hs hsd he hed hdt hdd hy le) k
theorem stepRB2SO {d : Tmp} {src dst e : TypeId} {y : Operand} {sd ed dd : TyD} {l : List UInt8} {k o1 n : Nat} {ty ty' : TypeId} {z : UInt8} (hop : o.op = .convert src dst y) (hdst : o.dst = some d) (hs : X.T src = some sd) (hsd : sd.desc = .slice e) (hdt : X.T dst = some dd) (hdd : dd.desc = .string) (he : X.T e = some ed) (hed : ed.desc = .int .u8) (hg : gd all s o = some true) (hd : dstOk X.N (some d) = true) (hy : s.opd y = .own k o1 n ty 1) (hk : s.blk k = some (.data ty' 1 eB z l)) (r : awpR ex X all pre rest Q (s.put (some d) (.d (.str (cut o1 n l))))) : awpR ex X all (o :: pre) rest Q s := awpR_cons (isMove_conv hop) (isAlloc_conv hop) (isLoad_conv hop) hdst hd (m_b2sO X.ok hop hg hs hsd he hed hdt hdd hy hk) r
theorem stepRS2B {d : Tmp} {src dst e : TypeId} {y : Operand} {sd ed dd : TyD} {l : List UInt8} (hop : o.op = .convert src dst y) (hdst : o.dst = some d) (hs : X.T src = some sd) (hsd : sd.desc = .string) (hdt : X.T dst = some dd) (hdd : dd.desc = .slice e) (he : X.T e = some ed) (hed : ed.desc = .int .u8) (hg : gd all s o = some true) (hd : dstOk X.N (some d) = true) (hy : s.opd y = .d (.str l)) (k : awpR ex X all pre rest Q (s.put (some d) (.d (.sl 1 eB 0 l)))) : awpR ex X all (o :: pre) rest Q s := awpR_cons (isMove_conv hop) (isAlloc_conv hop) (isLoad_conv hop) hdst hd (m_s2b X.ok hop hg hs hsd hdt hdd he hed hy) k
theorem stepRAppF {d : Tmp} {α : Type} {en : α → List D} {z : α} {l l2 : List α} {td ed : TyD} {d1 d2 : D} {t : TypeId} {c : Call} {x y : Operand} {e : TypeId} (hkk : Nat.beq (opK o.op) 3 = true) (hop : o.op = .call c) (hc : c = ⟨.builtin .append, #[x, y], #[t, t]⟩) (hdst : o.dst = some d) (hx : s.opd x = .d (.full d1)) (hg : gd all s o = some true) (hd : dstOk X.N (some d) = true) (ht : X.T t = some td) (hds : td.desc = .slice e) (he : X.T e = some ed) (hz : zeroOk ed = true) (hy : s.opd y = .d d2) (le2 : LeD d2 (.sl ed.size en z l2)) (le1 : LeD d1 (.sl ed.size en z l)) (hb : l.length + l2.length ≤ 9223372036854775807 ∧ (l.length + l2.length) * ed.bytes ≤ 140737488355328) (k : awpR ex X all pre rest Q (s.put (some d) (.d (.sl ed.size en z (l ++ l2))))) : awpR ex X all (o :: pre) rest Q s := awpR_cons (isMove_call hop (by rw [hc]; rfl)) (isAlloc_call hop) (isLoad_call hop) hdst hd (m_appF' hop hc hg ht hds he hx hz hy le2 le1 hb) k
theorem awpR_guard {d : Tmp} {b : Bool} (hd : s.tmps d = .d (.bool b)) (h1 : b = true → awpR ex X all pre rest Q (s.put (some d) (.d (.bool true)))) (h2 : b = false → awpR ex X all pre rest Q (s.put (some d) (.d (.bool false)))) : awpR ex X all pre rest Q s := by
  cases b with
  | true => have := h1 rfl; rwa [put_self hd] at this
  | false => have := h2 rfl; rwa [put_self hd] at this
theorem awp_regE {ex : Bool} (id n : Nat) (ks : List Nat) {ops : List Oper} (hm : X.P.follows .mixedOrders = true) (hok : ordOk ex ops.toArray n = true) (hak : allocKeys ops.toArray = ks) (hK : (ks.all fun k => !(X.K.contains k)) = true) (h : awpR ex X ops.toArray (ops.take n) (ops.drop n) Q (s.kills ks)) : awp X (.region id ops.toArray true) Q s := by
  subst hak
  obtain ⟨s1, h1, h2⟩ := h
  exact awp_region_ord hm n hok hK h1 h2
theorem awp_regK (id n : Nat) (ks : List Nat) {ops : List Oper} (hm : X.P.follows .mixedOrders = true) (hok : ordOk false ops.toArray n = true) (hak : allocKeys ops.toArray = ks) (hK : (ks.all fun k => !(X.K.contains k)) = true) (h : awpR false X ops.toArray (ops.take n) (ops.drop n) Q (s.kills ks)) : awp X (.region id ops.toArray true) Q s := awp_regE id n ks hm hok hak hK h
theorem awp_reg (id n : Nat) {ops : List Oper} (hm : X.P.follows .mixedOrders = true) (hok : ordOk false ops.toArray n = true) (hak : allocKeys ops.toArray = []) (h : awpR false X ops.toArray (ops.take n) (ops.drop n) Q s) : awp X (.region id ops.toArray true) Q s := awp_regK id n [] hm hok hak rfl h
end

/-! ## Guards that are open -/

def guardOf (all : Array Oper) (o : Oper) : Option Tmp := match o.guard with | none => none | some (g, _) => (all[g]?).bind (·.dst)

section
variable {ex : Bool} {X : Ctx} {all : Array Oper} {Q : Exit → St → Prop} {s : St} {o : Oper} {pre rest : List Oper} {d : Tmp}
theorem gdL {b : Bool} (hg : guardOf all o = some d) (hd : s.tmps d = .d (.bool b)) (h1 : b = true → awpL X all (o :: rest) Q (s.put (some d) (.d (.bool true)))) (h2 : b = false → awpL X all (o :: rest) Q (s.put (some d) (.d (.bool false)))) : awpL X all (o :: rest) Q s := awpL_guard hd h1 h2
theorem gdR {b : Bool} (hg : guardOf all o = some d) (hd : s.tmps d = .d (.bool b)) (h1 : b = true → awpR ex X all (o :: pre) rest Q (s.put (some d) (.d (.bool true)))) (h2 : b = false → awpR ex X all (o :: pre) rest Q (s.put (some d) (.d (.bool false)))) : awpR ex X all (o :: pre) rest Q s := awpR_guard hd h1 h2
end
section
variable {ex : Bool} {X : Ctx} {all : Array Oper} {Q : Exit → St → Prop} {s : St} {o : Oper} {pre rest : List Oper} {d : Tmp} {p : Prop} [Decidable p]
theorem gdLD (hg : guardOf all o = some d) (hd : s.tmps d = .d (.bool (decide p))) (h1 : p → awpL X all (o :: rest) Q (s.put (some d) (.d (.bool true)))) (h2 : ¬ p → awpL X all (o :: rest) Q (s.put (some d) (.d (.bool false)))) : awpL X all (o :: rest) Q s := awpL_guard hd (fun e => h1 (of_decide_eq_true e)) (fun e => h2 (of_decide_eq_false e))
theorem gdLN (hg : guardOf all o = some d) (hd : s.tmps d = .d (.bool (!decide p))) (h1 : ¬ p → awpL X all (o :: rest) Q (s.put (some d) (.d (.bool true)))) (h2 : p → awpL X all (o :: rest) Q (s.put (some d) (.d (.bool false)))) : awpL X all (o :: rest) Q s := awpL_guard hd (fun e => h1 (of_decide_eq_false (by simpa using e))) (fun e => h2 (of_decide_eq_true (by simpa using e)))
theorem gdRD (hg : guardOf all o = some d) (hd : s.tmps d = .d (.bool (decide p))) (h1 : p → awpR ex X all (o :: pre) rest Q (s.put (some d) (.d (.bool true)))) (h2 : ¬ p → awpR ex X all (o :: pre) rest Q (s.put (some d) (.d (.bool false)))) : awpR ex X all (o :: pre) rest Q s := awpR_guard hd (fun e => h1 (of_decide_eq_true e)) (fun e => h2 (of_decide_eq_false e))
theorem gdRN (hg : guardOf all o = some d) (hd : s.tmps d = .d (.bool (!decide p))) (h1 : ¬ p → awpR ex X all (o :: pre) rest Q (s.put (some d) (.d (.bool true)))) (h2 : p → awpR ex X all (o :: pre) rest Q (s.put (some d) (.d (.bool false)))) : awpR ex X all (o :: pre) rest Q s := awpR_guard hd (fun e => h1 (of_decide_eq_false (by simpa using e))) (fun e => h2 (of_decide_eq_true (by simpa using e)))
end
theorem goL {G : Prop} {X : Ctx} {all : Array Oper} {ops : List Oper} {Q : Exit → St → Prop} {s : St} (k : G) (h : G → awpL X all ops Q s := by
  first
  | exact Go.Vw.stepQ true Go.Vw.tt Go.Vw.stt rfl rfl rfl Go.Vw.sc
  | exact Go.Vw.awpL_nil
  | exact Go.Vw.stepOff Go.Vw.sff rfl rfl
  | exact Go.Vw.stepStore Go.Vw.tt rfl rfl rfl rfl rfl rfl rfl rfl rfl Go.Vw.leL Go.Vw.sc
  | exact Go.Vw.stepStoreV Go.Vw.tt rfl rfl rfl rfl rfl rfl rfl rfl Go.Vw.sc
  | exact Go.Vw.stepAppF Go.Vw.tt rfl rfl rfl rfl rfl rfl rfl rfl rfl rfl rfl (Go.Vw.LeD.refl _) (Go.Vw.LeD.lit rfl (Go.Vw.LeR.cons rfl Go.Vw.leL Go.Vw.LeR.nil)) Go.Vw.sc
  | exact Go.Vw.stepAppF Go.Vw.tt rfl rfl rfl rfl rfl rfl rfl rfl rfl rfl rfl (Go.Vw.LeD.refl _) (Go.Vw.LeD.lit rfl Go.Vw.LeR.nil) Go.Vw.sc
  | exact Go.Vw.stepApp Go.Vw.tt rfl rfl rfl rfl rfl rfl rfl rfl rfl rfl rfl rfl Go.Vw.sc Go.Vw.srcOk Go.Vw.sc
  | exact Go.Vw.stepAppNil Go.Vw.tt rfl rfl rfl rfl rfl rfl rfl rfl rfl rfl rfl Go.Vw.srcZ Go.Vw.sc
  | exact Go.Vw.stepE1 Go.Vw.tt rfl rfl rfl rfl rfl
  | exact Go.Vw.stepE0 Go.Vw.tt rfl rfl rfl
  | exact Go.Vw.stepLitF Go.Vw.tt rfl Go.Vw.tt rfl rfl rfl
  | exact Go.Vw.stepLit Go.Vw.tt rfl rfl rfl rfl
  | exact Go.Vw.stepMake (mm := true) (en := Go.Vw.eN .u32) (z := 0) Go.Vw.tt rfl rfl rfl rfl rfl rfl rfl rfl rfl rfl rfl rfl Go.Vw.leL Go.Vw.sc Go.Vw.sc
  | exact Go.Vw.stepMake (mm := false) (en := Go.Vw.eN .u32) (z := 0) Go.Vw.tt rfl rfl rfl rfl rfl rfl rfl rfl rfl rfl rfl rfl Go.Vw.leL Go.Vw.sc Go.Vw.sc
  | exact Go.Vw.stepMake (mm := true) (en := Go.Vw.eI .i64) (z := 0) Go.Vw.tt rfl rfl rfl rfl rfl rfl rfl rfl rfl rfl rfl rfl Go.Vw.leL Go.Vw.sc Go.Vw.sc
  | exact Go.Vw.stepMake (mm := false) (en := Go.Vw.eI .i64) (z := 0) Go.Vw.tt rfl rfl rfl rfl rfl rfl rfl rfl rfl rfl rfl rfl Go.Vw.leL Go.Vw.sc Go.Vw.sc
  | exact Go.Vw.stepQ false Go.Vw.tt Go.Vw.stt rfl rfl rfl Go.Vw.sc
  | exact Go.Vw.stepB2S rfl rfl rfl rfl rfl rfl rfl rfl rfl rfl rfl (Go.Vw.LeD.refl _)
  | exact Go.Vw.stepB2SO rfl rfl rfl rfl rfl rfl rfl rfl rfl rfl rfl rfl
  | exact Go.Vw.stepS2B rfl rfl rfl rfl rfl rfl rfl rfl rfl rfl rfl
  | exact Go.Vw.stepB2S rfl rfl rfl rfl rfl rfl rfl rfl rfl rfl rfl (Go.Vw.LeD.lit rfl (Go.Vw.LeR.cons rfl Go.Vw.leL Go.Vw.LeR.nil))
  | exact Go.Vw.stepM0 Go.Vw.tt rfl (Go.Vw.m_q true rfl rfl Go.Vw.sc)
  | fail) : awpL X all ops Q s := h k
theorem goR {G : Prop} {ex : Bool} {X : Ctx} {all : Array Oper} {ops rest : List Oper} {Q : Exit → St → Prop} {s : St} (k : G) (h : G → awpR ex X all ops rest Q s := by
  first
  | exact Go.Vw.stepRQ true Go.Vw.tt Go.Vw.stt rfl rfl rfl Go.Vw.sc rfl rfl
  | exact Go.Vw.awpR_nil
  | exact Go.Vw.stepROff Go.Vw.sff rfl rfl rfl
  | exact Go.Vw.stepRStore Go.Vw.tt rfl rfl rfl rfl rfl rfl rfl rfl rfl Go.Vw.leL Go.Vw.sc rfl rfl
  | exact Go.Vw.stepRStoreB Go.Vw.tt rfl rfl rfl rfl rfl rfl rfl rfl rfl rfl rfl rfl
  | exact Go.Vw.stepRAlloc Go.Vw.tt rfl rfl rfl rfl rfl rfl rfl rfl rfl
  | exact Go.Vw.stepRLitF Go.Vw.tt rfl Go.Vw.tt rfl rfl rfl
  | exact Go.Vw.stepRAppF Go.Vw.tt rfl rfl rfl rfl rfl rfl rfl rfl rfl rfl rfl (Go.Vw.LeD.refl _) (Go.Vw.LeD.lit rfl (Go.Vw.LeR.cons rfl Go.Vw.leL Go.Vw.LeR.nil)) Go.Vw.sc
  | exact Go.Vw.stepRAppF Go.Vw.tt rfl rfl rfl rfl rfl rfl rfl rfl rfl rfl rfl (Go.Vw.LeD.refl _) (Go.Vw.LeD.lit rfl Go.Vw.LeR.nil) Go.Vw.sc
  | exact Go.Vw.stepRLit Go.Vw.tt rfl rfl rfl rfl
  | exact Go.Vw.stepRQ false Go.Vw.tt Go.Vw.stt rfl rfl rfl Go.Vw.sc rfl rfl
  | exact Go.Vw.stepRB2S rfl rfl rfl rfl rfl rfl rfl rfl rfl rfl rfl (Go.Vw.LeD.refl _)
  | exact Go.Vw.stepRB2SO rfl rfl rfl rfl rfl rfl rfl rfl rfl rfl rfl rfl
  | exact Go.Vw.stepRS2B rfl rfl rfl rfl rfl rfl rfl rfl rfl rfl rfl
  | exact Go.Vw.stepRB2S rfl rfl rfl rfl rfl rfl rfl rfl rfl rfl rfl (Go.Vw.LeD.lit rfl (Go.Vw.LeR.cons rfl Go.Vw.leL Go.Vw.LeR.nil))
  | fail) : awpR ex X all ops rest Q s := h k
theorem goA {G : Prop} {X : Ctx} {c : Code} {Q : Exit → St → Prop} {s : St} (k : G) (h : G → awp X c Q s := by
  first
  | exact Go.Vw.awp_seq
  | exact Go.Vw.awp_region
  | exact Go.Vw.awp_block
  | exact Go.Vw.awp_condT rfl
  | exact Go.Vw.awp_condF rfl
  | exact Go.Vw.awp_skip
  | exact Go.Vw.awp_exit
  | exact Go.Vw.awp_ret
  | fail) : awp X c Q s := h k
theorem goN {G : Prop} {K : St → Prop} {Q : Exit → St → Prop} {e : Exit} {s : St} (k : G) (h : G → andThen K Q e s := by
  first
  | exact Go.Vw.thenN
  | exact Go.Vw.thenX
  | exact Go.Vw.thenR
  | fail) : andThen K Q e s := h k
theorem goB {G : Prop} {id : Nat} {Q : Exit → St → Prop} {e : Exit} {s : St} (k : G) (h : G → inBlock id Q e s := by
  first
  | exact Go.Vw.inN
  | exact Go.Vw.inX
  | exact Go.Vw.inY rfl
  | exact Go.Vw.inR
  | fail) : inBlock id Q e s := h k

section
variable {ex : Bool} {X : Ctx} {all : Array Oper} {Q : Exit → St → Prop} {s : St} {o : Oper} {pre rest : List Oper} {c : Call} {caps : List V} {ds' : List D} {r : D}

def CallM (X : Ctx) (all : Array Oper) (s : St) (o : Oper) (f : FuncId) (ds' : List D) (r : D) : Prop := Ret X.P f ds' (· = r) → M1 X all s o (.d r)
def CallE (X : Ctx) (all : Array Oper) (s s1 : St) (o : Oper) (f : FuncId) (ds' : List D) (r : D) : Prop := Ret X.P f ds' (· = r) → E1 X all s o (s1.put o.dst (.d r))

theorem callM_plain {f : FuncId} (hop : o.op = .call c) (hg : gd all s o = some true) (hc : calleeOf s c = some (f, caps)) (hk : (allD (c.args.toList.map s.opd ++ caps)).isSome = true) {ds : List D} (ha : allD (c.args.toList.map s.opd ++ caps) = some ds) (le : LeT ds ds') : CallM X all s o f ds' r := fun hr => m_callR hg hop hc ha le hr
theorem callM_lent {f : FuncId} (m : Bool) (hop : o.op = .call c) (hg : gd all s o = some true) (hc : calleeOf s c = some (f, caps)) (hk2 : (allD (c.args.toList.map s.opd ++ caps)).isSome = false) (hk : (V.asDs m s (c.args.toList.map s.opd ++ caps)).isSome = true) {C : Prop} {ds : List D} (ha : V.asDs m s (c.args.toList.map s.opd ++ caps) = some (C, ds)) (le : LeT ds ds') (hn : r.noRef = true) (hC : C) : CallM X all s o f ds' r := fun hr => m_callB hg hop hc m ha le hr hC hn
theorem callE_of {f : FuncId} (hd : dstOk X.N o.dst = true) (h : CallM X all s o f ds' r) : CallE X all s s o f ds' r := fun hr => (h hr).e1 hd
theorem callE_frz {f : FuncId} {s1 : St} (hop : o.op = .call c) (hc : calleeOf s c = some (f, caps)) (hkk : (ownKey (c.args.toList.map s.opd ++ caps)).isSome = true) {k : Nat} {b : Blk} (hk : ownKey (c.args.toList.map s.opd ++ caps) = some k) (hb : s.blk k = some b) (h : CallE X all (s.sub k (some b)) s1 o f ds' r) : CallE X all s s1 o f ds' r := fun hr => e_frz k hb (h hr)

def calleeIs (s : St) (op : Op) (f : FuncId) : Bool := match op with | .call c => (match calleeOf s c with | some (g, _) => Nat.beq g f | none => false) | _ => false
theorem cl {s1 : St} {d : Tmp} (f : FuncId) (hcf : calleeIs s o.op f = true) (hop : o.op = .call c) (hc : calleeOf s c = some (f, caps)) (hdst : o.dst = some d) (h : CallE X all s s1 o f ds' r := by
  first
  | exact Go.Vw.callE_of rfl (Go.Vw.callM_plain rfl rfl rfl Go.Vw.tt rfl Go.Vw.leT)
  | exact Go.Vw.callE_of rfl (Go.Vw.callM_lent true rfl rfl rfl Go.Vw.ff Go.Vw.tt rfl Go.Vw.leT rfl Go.Vw.sc)
  | exact Go.Vw.callE_of rfl (Go.Vw.callM_lent false rfl rfl rfl Go.Vw.ff Go.Vw.tt rfl Go.Vw.leT rfl Go.Vw.sc)
  | exact Go.Vw.callE_frz rfl rfl Go.Vw.tt rfl rfl (Go.Vw.callE_of rfl (Go.Vw.callM_plain rfl rfl rfl Go.Vw.tt rfl Go.Vw.leT))
  | exact Go.Vw.callE_frz rfl rfl Go.Vw.tt rfl rfl (Go.Vw.callE_frz rfl rfl Go.Vw.tt rfl rfl (Go.Vw.callE_of rfl (Go.Vw.callM_plain rfl rfl rfl Go.Vw.tt rfl Go.Vw.leT)))
  | fail) (hr : Ret X.P f ds' (· = r)) (k : awpL X all rest Q (s1.put (some d) (.d r))) : awpL X all (o :: rest) Q s := by
  rw [← hdst] at k
  exact awpL_step (h hr) k
theorem clR {d : Tmp} (f : FuncId) (hcf : calleeIs s o.op f = true) (hop : o.op = .call c) (hc : calleeOf s c = some (f, caps)) (hdst : o.dst = some d) (h : CallM X all s o f ds' r := by
  first
  | exact Go.Vw.callM_plain rfl rfl rfl Go.Vw.tt rfl Go.Vw.leT
  | exact Go.Vw.callM_lent true rfl rfl rfl Go.Vw.ff Go.Vw.tt rfl Go.Vw.leT rfl Go.Vw.sc
  | exact Go.Vw.callM_lent false rfl rfl rfl Go.Vw.ff Go.Vw.tt rfl Go.Vw.leT rfl Go.Vw.sc
  | fail) (hd : dstOk X.N (some d) = true := by exact rfl) (hr : Ret X.P f ds' (· = r)) (k : awpR ex X all pre rest Q (s.put (some d) (.d r))) : awpR ex X all (o :: pre) rest Q s :=
  awpR_cons (isMove_call hop (callee_reg hc)) (isAlloc_call hop) (isLoad_call hop) hdst hd (h hr) k
end

theorem fin {T : TypeId → Option TyD} {fn : Func} {R : D → Prop} {s : St} (m : Bool) {C : Prop} {r : D} (hd : s.dfs = []) (h : resOf T m s fn.results.toList = some (C, r)) (hR : R r) (hC : C := by exact Go.Vw.sc) : retPost T fn R .ret s := ⟨hd, m, C, r, r, h, hC, LeD.refl _, hR⟩
section
variable {T : TypeId → Option TyD} {fn : Func} {x : D} {s : St} {C : Prop} {r : D}
theorem finE (m : Bool) (hd : s.dfs = []) (h : resOf T m s fn.results.toList = some (C, r)) (hC : C) (hR : r = x) : retPost T fn (fun y => y = x) .ret s := ⟨hd, m, C, r, x, h, hC, hR ▸ LeD.refl _, rfl⟩
theorem finLe (m : Bool) (hd : s.dfs = []) (h : resOf T m s fn.results.toList = some (C, r)) (hC : C) (hR : LeD r x) : retPost T fn (fun y => y = x) .ret s := ⟨hd, m, C, r, x, h, hC, hR, rfl⟩
theorem finF (m : Bool) (hd : s.dfs = []) {sz : Nat} {α : Type} {e : α → List D} {z : α} {l l' : List α} (h : resOf T m s fn.results.toList = some (C, .sl sz e z (cut 0 l'.length l'))) (hC : C) (hR : l' = l) : retPost T fn (fun y => y = .sl sz e z l) .ret s := by
  subst hR; exact finLe m hd h hC LeD.full
theorem finC (m : Bool) (hd : s.dfs = []) {sz n : Nat} {α : Type} {e : α → List D} {z : α} {l l' : List α} (h : resOf T m s fn.results.toList = some (C, .sl sz e z (cut 0 n l'))) (hC : C) (hn : n = l'.length) (hR : l' = l) : retPost T fn (fun y => y = .sl sz e z l) .ret s := by
  subst hR; exact finLe m hd h hC (LeD.cutAll hn)
theorem finT (m : Bool) (hd : s.dfs = []) {rs ys : List D} (h : resOf T m s fn.results.toList = some (C, .tup rs)) (hC : C) (hR : LeT rs ys) : retPost T fn (fun y => y = .tup ys) .ret s := finLe m hd h hC (LeD.tup hR)
theorem finA (m : Bool) (hd : s.dfs = []) {rs ys : List D} (h : resOf T m s fn.results.toList = some (C, .agg rs)) (hC : C) (hR : LeL rs ys) : retPost T fn (fun y => y = .agg ys) .ret s := finLe m hd h hC (LeD.agg hR)
theorem finN (hd : s.dfs = []) (h : resOf T true s fn.results.toList = some (C, .nils)) (hC : C) {sz : Nat} {α : Type} {e : α → List D} {z : α} {l : List α} (hR : l = []) : retPost T fn (fun y => y = .sl sz e z l) .ret s := by
  subst hR; exact finLe true hd h hC LeD.nils
theorem finL (m : Bool) (hd : s.dfs = []) {sz n : Nat} {rows : List (List D)} (h : resOf T m s fn.results.toList = some (C, .sl sz (nth [] rows) 0 (iota n 0))) (hC : C) (hn : rows.length = n) {α : Type} {e : α → List D} {z : α} {l l' : List α} (hl : LeR sz rows e l') (hR : l' = l) : retPost T fn (fun y => y = .sl sz e z l) .ret s := by
  subst hR; exact finLe m hd h hC (LeD.lit hn hl)
end

/-! ## Short words: ways and ends -/

section
variable {ex : Bool} {X : Ctx} {all : Array Oper} {Q : Exit → St → Prop} {s : St} {o : Oper} {pre rest : List Oper} {G G1 G2 : Prop}
theorem gdLG (k1 : G1) (k2 : G2) (h : G1 → G2 → awpL X all (o :: rest) Q s := by
  first
  | exact Go.Vw.gdLD rfl rfl
  | exact Go.Vw.gdLN rfl rfl
  | exact Go.Vw.gdL rfl rfl
  | fail) : awpL X all (o :: rest) Q s := h k1 k2
theorem gdRG (k1 : G1) (k2 : G2) (h : G1 → G2 → awpR ex X all (o :: pre) rest Q s := by
  first
  | exact Go.Vw.gdRD rfl rfl
  | exact Go.Vw.gdRN rfl rfl
  | exact Go.Vw.gdR rfl rfl
  | fail) : awpR ex X all (o :: pre) rest Q s := h k1 k2
theorem cdG {c : Operand} {x y : Code} (k1 : G1) (k2 : G2) (h : G1 → G2 → awp X (.cond c x y) Q s := by
  first
  | exact Go.Vw.awp_condD rfl
  | exact Go.Vw.awp_condN rfl
  | exact Go.Vw.awp_cond rfl
  | fail) : awp X (.cond c x y) Q s := h k1 k2
theorem finG {T : TypeId → Option TyD} {fn : Func} {R : D → Prop} {e : Exit} (k : G) (h : G → retPost T fn R e s := by
  first
  | exact Go.Vw.finF true rfl rfl Go.Vw.sc
  | exact Go.Vw.finF false rfl rfl Go.Vw.sc
  | exact Go.Vw.finC false rfl rfl Go.Vw.sc Go.Vw.sc
  | exact Go.Vw.finN rfl rfl Go.Vw.sc
  | exact Go.Vw.finL true rfl rfl Go.Vw.sc rfl (Go.Vw.LeR.cons rfl Go.Vw.leL Go.Vw.LeR.nil)
  | exact Go.Vw.finE true rfl rfl Go.Vw.sc
  | exact Go.Vw.finE false rfl rfl Go.Vw.sc
  | fail) : retPost T fn R e s := h k
theorem finTG {T : TypeId → Option TyD} {fn : Func} {R : D → Prop} {e : Exit} (k : G) (h : G → retPost T fn R e s := by
  first
  | exact Go.Vw.finF true rfl rfl Go.Vw.sc
  | exact Go.Vw.finF false rfl rfl Go.Vw.sc
  | exact Go.Vw.finC false rfl rfl Go.Vw.sc Go.Vw.sc
  | exact Go.Vw.finN rfl rfl Go.Vw.sc
  | exact Go.Vw.finL true rfl rfl Go.Vw.sc rfl (Go.Vw.LeR.cons rfl Go.Vw.leL Go.Vw.LeR.nil)
  | exact Go.Vw.finT true rfl rfl Go.Vw.sc
  | exact Go.Vw.finT false rfl rfl Go.Vw.sc
  | exact Go.Vw.finE true rfl rfl Go.Vw.sc
  | exact Go.Vw.finE false rfl rfl Go.Vw.sc
  | fail) : retPost T fn R e s := h k
end
end Go.Vw

/-
  The types of the translation, as a table, and that the program has them so. Conditions: none.
-/
set_option maxRecDepth 100000
namespace Go.Proofs.YtlphlodailailaaGreat
open Go.Vw
def T : TypeId → Option TyD
  | 2 => some ⟨.int .i64, 1, 8, .int .i64 0⟩
  | 3 => some ⟨.int .i64, 1, 8, .int .i64 0⟩
  | 4 => some ⟨.bool, 1, 1, .bool false⟩
  | 5 => some ⟨.int .u8, 1, 1, .int .u8 0⟩
  | 6 => some ⟨.int .u8, 1, 1, .int .u8 0⟩
  | 9 => some ⟨.string, 1, 16, .string .empty⟩
  | 10 => some ⟨.string, 1, 16, .string .empty⟩
  | 11 => some ⟨.string, 1, 16, .string .empty⟩
  | 12 => some ⟨.int .u64, 1, 8, .int .u64 0⟩
  | 15 => some ⟨.pointer 150, 1, 8, .pointer none⟩
  | 16 => some ⟨.pointer 153, 1, 8, .pointer none⟩
  | 17 => some ⟨.pointer 162, 1, 8, .pointer none⟩
  | 21 => some ⟨.int .i32, 1, 4, .int .i32 0⟩
  | 22 => some ⟨.slice 3, 1, 24, .slice none 0 0⟩
  | 23 => some ⟨.slice 29, 1, 24, .slice none 0 0⟩
  | 25 => some ⟨.slice 99, 1, 24, .slice none 0 0⟩
  | 26 => some ⟨.struct #[⟨ "Neg", 4, 0, false, "", "", 0⟩, ⟨ "Mag", 25, 1, false, "", "", 8⟩], 2, 32, .agg #[.bool false, .slice none 0 0]⟩
  | 27 => some ⟨.struct #[⟨ "Neg", 4, 0, false, "", "", 0⟩, ⟨ "Mag", 25, 1, false, "", "", 8⟩], 2, 32, .agg #[.bool false, .slice none 0 0]⟩
  | 28 => some ⟨.struct #[⟨ "Num", 27, 0, false, "", "", 0⟩, ⟨ "Den", 25, 2, false, "", "", 32⟩], 3, 56, .agg #[.bool false, .slice none 0 0, .slice none 0 0]⟩
  | 29 => some ⟨.struct #[⟨ "Num", 27, 0, false, "", "", 0⟩, ⟨ "Den", 25, 2, false, "", "", 32⟩], 3, 56, .agg #[.bool false, .slice none 0 0, .slice none 0 0]⟩
  | 35 => some ⟨.slice 23, 1, 24, .slice none 0 0⟩
  | 44 => some ⟨.int .i64, 1, 8, .int .i64 0⟩
  | 54 => some ⟨.struct #[⟨ "Lo", 29, 0, false, "", "", 0⟩, ⟨ "Hi", 29, 3, false, "", "", 56⟩], 6, 112, .agg #[.bool false, .slice none 0 0, .slice none 0 0, .bool false, .slice none 0 0, .slice none 0 0]⟩
  | 55 => some ⟨.struct #[⟨ "Lo", 29, 0, false, "", "", 0⟩, ⟨ "Hi", 29, 3, false, "", "", 56⟩], 6, 112, .agg #[.bool false, .slice none 0 0, .slice none 0 0, .bool false, .slice none 0 0, .slice none 0 0]⟩
  | 60 => some ⟨.slice 55, 1, 24, .slice none 0 0⟩
  | 78 => some ⟨.slice 23, 1, 24, .slice none 0 0⟩
  | 99 => some ⟨.int .u32, 1, 4, .int .u32 0⟩
  | 105 => some ⟨.int .u64, 1, 8, .int .u64 0⟩
  | 123 => some ⟨.int .u64, 1, 8, .int .u64 0⟩
  | 147 => some ⟨.pointer 164, 1, 8, .pointer none⟩
  | 151 => some ⟨.array 0 16, 0, 0, .agg #[]⟩
  | 155 => some ⟨.int .u8, 1, 1, .int .u8 0⟩
  | 156 => some ⟨.int .u8, 1, 1, .int .u8 0⟩
  | 158 => some ⟨.pointer 5, 1, 8, .pointer none⟩
  | 159 => some ⟨.int .i32, 1, 4, .int .i32 0⟩
  | 160 => some ⟨.int .i32, 1, 4, .int .i32 0⟩
  | 163 => some ⟨.struct #[⟨ "s", 9, 0, false, "", "errors", 0⟩], 1, 16, .agg #[.string .empty]⟩
  | 164 => some ⟨.struct #[⟨ "s", 9, 0, false, "", "errors", 0⟩], 1, 16, .agg #[.string .empty]⟩
  | _ => none
theorem ty2 : tyOf Tryz.prog 2 = some ⟨.int .i64, 1, 8, .int .i64 0⟩ := by kernel_rfl
theorem ty3 : tyOf Tryz.prog 3 = some ⟨.int .i64, 1, 8, .int .i64 0⟩ := by kernel_rfl
theorem ty4 : tyOf Tryz.prog 4 = some ⟨.bool, 1, 1, .bool false⟩ := by kernel_rfl
theorem ty5 : tyOf Tryz.prog 5 = some ⟨.int .u8, 1, 1, .int .u8 0⟩ := by kernel_rfl
theorem ty6 : tyOf Tryz.prog 6 = some ⟨.int .u8, 1, 1, .int .u8 0⟩ := by kernel_rfl
theorem ty9 : tyOf Tryz.prog 9 = some ⟨.string, 1, 16, .string .empty⟩ := by kernel_rfl
theorem ty10 : tyOf Tryz.prog 10 = some ⟨.string, 1, 16, .string .empty⟩ := by kernel_rfl
theorem ty11 : tyOf Tryz.prog 11 = some ⟨.string, 1, 16, .string .empty⟩ := by kernel_rfl
theorem ty12 : tyOf Tryz.prog 12 = some ⟨.int .u64, 1, 8, .int .u64 0⟩ := by kernel_rfl
theorem ty15 : tyOf Tryz.prog 15 = some ⟨.pointer 150, 1, 8, .pointer none⟩ := by kernel_rfl
theorem ty16 : tyOf Tryz.prog 16 = some ⟨.pointer 153, 1, 8, .pointer none⟩ := by kernel_rfl
theorem ty17 : tyOf Tryz.prog 17 = some ⟨.pointer 162, 1, 8, .pointer none⟩ := by kernel_rfl
theorem ty21 : tyOf Tryz.prog 21 = some ⟨.int .i32, 1, 4, .int .i32 0⟩ := by kernel_rfl
theorem ty22 : tyOf Tryz.prog 22 = some ⟨.slice 3, 1, 24, .slice none 0 0⟩ := by kernel_rfl
theorem ty23 : tyOf Tryz.prog 23 = some ⟨.slice 29, 1, 24, .slice none 0 0⟩ := by kernel_rfl
theorem ty25 : tyOf Tryz.prog 25 = some ⟨.slice 99, 1, 24, .slice none 0 0⟩ := by kernel_rfl
theorem ty26 : tyOf Tryz.prog 26 = some ⟨.struct #[⟨ "Neg", 4, 0, false, "", "", 0⟩, ⟨ "Mag", 25, 1, false, "", "", 8⟩], 2, 32, .agg #[.bool false, .slice none 0 0]⟩ := by kernel_rfl
theorem ty27 : tyOf Tryz.prog 27 = some ⟨.struct #[⟨ "Neg", 4, 0, false, "", "", 0⟩, ⟨ "Mag", 25, 1, false, "", "", 8⟩], 2, 32, .agg #[.bool false, .slice none 0 0]⟩ := by kernel_rfl
theorem ty28 : tyOf Tryz.prog 28 = some ⟨.struct #[⟨ "Num", 27, 0, false, "", "", 0⟩, ⟨ "Den", 25, 2, false, "", "", 32⟩], 3, 56, .agg #[.bool false, .slice none 0 0, .slice none 0 0]⟩ := by kernel_rfl
theorem ty29 : tyOf Tryz.prog 29 = some ⟨.struct #[⟨ "Num", 27, 0, false, "", "", 0⟩, ⟨ "Den", 25, 2, false, "", "", 32⟩], 3, 56, .agg #[.bool false, .slice none 0 0, .slice none 0 0]⟩ := by kernel_rfl
theorem ty35 : tyOf Tryz.prog 35 = some ⟨.slice 23, 1, 24, .slice none 0 0⟩ := by kernel_rfl
theorem ty44 : tyOf Tryz.prog 44 = some ⟨.int .i64, 1, 8, .int .i64 0⟩ := by kernel_rfl
theorem ty54 : tyOf Tryz.prog 54 = some ⟨.struct #[⟨ "Lo", 29, 0, false, "", "", 0⟩, ⟨ "Hi", 29, 3, false, "", "", 56⟩], 6, 112, .agg #[.bool false, .slice none 0 0, .slice none 0 0, .bool false, .slice none 0 0, .slice none 0 0]⟩ := by kernel_rfl
theorem ty55 : tyOf Tryz.prog 55 = some ⟨.struct #[⟨ "Lo", 29, 0, false, "", "", 0⟩, ⟨ "Hi", 29, 3, false, "", "", 56⟩], 6, 112, .agg #[.bool false, .slice none 0 0, .slice none 0 0, .bool false, .slice none 0 0, .slice none 0 0]⟩ := by kernel_rfl
theorem ty60 : tyOf Tryz.prog 60 = some ⟨.slice 55, 1, 24, .slice none 0 0⟩ := by kernel_rfl
theorem ty78 : tyOf Tryz.prog 78 = some ⟨.slice 23, 1, 24, .slice none 0 0⟩ := by kernel_rfl
theorem ty99 : tyOf Tryz.prog 99 = some ⟨.int .u32, 1, 4, .int .u32 0⟩ := by kernel_rfl
theorem ty105 : tyOf Tryz.prog 105 = some ⟨.int .u64, 1, 8, .int .u64 0⟩ := by kernel_rfl
theorem ty123 : tyOf Tryz.prog 123 = some ⟨.int .u64, 1, 8, .int .u64 0⟩ := by kernel_rfl
theorem ty147 : tyOf Tryz.prog 147 = some ⟨.pointer 164, 1, 8, .pointer none⟩ := by kernel_rfl
theorem ty151 : tyOf Tryz.prog 151 = some ⟨.array 0 16, 0, 0, .agg #[]⟩ := by kernel_rfl
theorem ty155 : tyOf Tryz.prog 155 = some ⟨.int .u8, 1, 1, .int .u8 0⟩ := by kernel_rfl
theorem ty156 : tyOf Tryz.prog 156 = some ⟨.int .u8, 1, 1, .int .u8 0⟩ := by kernel_rfl
theorem ty158 : tyOf Tryz.prog 158 = some ⟨.pointer 5, 1, 8, .pointer none⟩ := by kernel_rfl
theorem ty159 : tyOf Tryz.prog 159 = some ⟨.int .i32, 1, 4, .int .i32 0⟩ := by kernel_rfl
theorem ty160 : tyOf Tryz.prog 160 = some ⟨.int .i32, 1, 4, .int .i32 0⟩ := by kernel_rfl
theorem ty163 : tyOf Tryz.prog 163 = some ⟨.struct #[⟨ "s", 9, 0, false, "", "errors", 0⟩], 1, 16, .agg #[.string .empty]⟩ := by kernel_rfl
theorem ty164 : tyOf Tryz.prog 164 = some ⟨.struct #[⟨ "s", 9, 0, false, "", "errors", 0⟩], 1, 16, .agg #[.string .empty]⟩ := by kernel_rfl
theorem tab : TabOk Tryz.prog T := by
  intro t d h
  unfold T at h
  split at h
  · cases h; exact TyOk.of ty2
  · cases h; exact TyOk.of ty3
  · cases h; exact TyOk.of ty4
  · cases h; exact TyOk.of ty5
  · cases h; exact TyOk.of ty6
  · cases h; exact TyOk.of ty9
  · cases h; exact TyOk.of ty10
  · cases h; exact TyOk.of ty11
  · cases h; exact TyOk.of ty12
  · cases h; exact TyOk.of ty15
  · cases h; exact TyOk.of ty16
  · cases h; exact TyOk.of ty17
  · cases h; exact TyOk.of ty21
  · cases h; exact TyOk.of ty22
  · cases h; exact TyOk.of ty23
  · cases h; exact TyOk.of ty25
  · cases h; exact TyOk.of ty26
  · cases h; exact TyOk.of ty27
  · cases h; exact TyOk.of ty28
  · cases h; exact TyOk.of ty29
  · cases h; exact TyOk.of ty35
  · cases h; exact TyOk.of ty44
  · cases h; exact TyOk.of ty54
  · cases h; exact TyOk.of ty55
  · cases h; exact TyOk.of ty60
  · cases h; exact TyOk.of ty78
  · cases h; exact TyOk.of ty99
  · cases h; exact TyOk.of ty105
  · cases h; exact TyOk.of ty123
  · cases h; exact TyOk.of ty147
  · cases h; exact TyOk.of ty151
  · cases h; exact TyOk.of ty155
  · cases h; exact TyOk.of ty156
  · cases h; exact TyOk.of ty158
  · cases h; exact TyOk.of ty159
  · cases h; exact TyOk.of ty160
  · cases h; exact TyOk.of ty163
  · cases h; exact TyOk.of ty164
  · cases h
theorem mixed : Tryz.prog.follows .mixedOrders = true := by kernel_rfl
section
variable {X : Ctx} {Q : Exit → St → Prop} {s : St} {ops : List Oper}
theorem rgK (id n : Nat) (ks : List Nat) (h : awpR false X ops.toArray (ops.take n) (ops.drop n) Q (s.kills ks)) (hm : X.P.follows .mixedOrders = true := by exact mixed) (hok : ordOk false ops.toArray n = true := by kernel_rfl) (hak : allocKeys ops.toArray = ks := by kernel_rfl) (hK : (ks.all fun k => !(X.K.contains k)) = true := by kernel_rfl) : awp X (.region id ops.toArray true) Q s := awp_regE id n ks hm hok hak hK h
theorem rg (id n : Nat) (h : awpR false X ops.toArray (ops.take n) (ops.drop n) Q s) (hm : X.P.follows .mixedOrders = true := by exact mixed) (hok : ordOk false ops.toArray n = true := by kernel_rfl) (hak : allocKeys ops.toArray = [] := by kernel_rfl) : awp X (.region id ops.toArray true) Q s := awp_reg id n hm hok hak h
end
end Go.Proofs.YtlphlodailailaaGreat

/-
  Natural numbers as lists of limbs of 32 bits: plain arithmetic. Conditions: as each says.
-/
namespace Go.Vw

abbrev B : Nat := 4294967296

def val : List Nat → Nat
  | [] => 0
  | x :: l => x + B * val l

def WF (l : List Nat) : Prop := ∀ x ∈ l, x < B

def limbs (n : Nat) : List Nat := if h : n = 0 then [] else n % B :: limbs (n / B)
termination_by n
decreasing_by exact Nat.div_lt_self (Nat.pos_of_ne_zero h) (by decide)

theorem limbs_zero : limbs 0 = [] := by unfold limbs; simp
theorem limbs_pos {n : Nat} (h : n ≠ 0) : limbs n = n % B :: limbs (n / B) := by
  rw [limbs]; simp [h]

theorem val_limbs (n : Nat) : val (limbs n) = n := by
  induction n using Nat.strongRecOn with
  | _ n ih =>
    by_cases h : n = 0
    · subst h; rw [limbs_zero]; rfl
    · rw [limbs_pos h, val, ih _ (Nat.div_lt_self (Nat.pos_of_ne_zero h) (by decide))]
      exact Nat.mod_add_div n B

theorem wf_limbs (n : Nat) : WF (limbs n) := by
  induction n using Nat.strongRecOn with
  | _ n ih =>
    by_cases h : n = 0
    · subst h; rw [limbs_zero]; intro x hx; cases hx
    · rw [limbs_pos h]
      intro x hx
      rcases List.mem_cons.1 hx with rfl | hx
      · exact Nat.mod_lt _ (by decide)
      · exact ih _ (Nat.div_lt_self (Nat.pos_of_ne_zero h) (by decide)) x hx

theorem WF.tail {x : Nat} {l : List Nat} (h : WF (x :: l)) : WF l := fun y hy => h y (by simp [hy])
theorem WF.head {x : Nat} {l : List Nat} (h : WF (x :: l)) : x < B := h x (by simp)
theorem WF.nil : WF [] := fun x hx => by cases hx
theorem WF.append {a b : List Nat} (ha : WF a) (hb : WF b) : WF (a ++ b) := fun x hx => by
  rcases List.mem_append.1 hx with h | h
  · exact ha x h
  · exact hb x h
theorem WF.take {a : List Nat} (ha : WF a) (n : Nat) : WF (a.take n) := fun x hx => ha x (List.mem_of_mem_take hx)
theorem WF.drop {a : List Nat} (ha : WF a) (n : Nat) : WF (a.drop n) := fun x hx => ha x (List.mem_of_mem_drop hx)
theorem WF.getD {a : List Nat} (ha : WF a) (i : Nat) : a.getD i 0 < B := by
  by_cases h : i < a.length
  · simp only [List.getD, List.getElem?_eq_getElem h, Option.getD_some]; exact ha _ (List.getElem_mem h)
  · simp [List.getD, List.getElem?_eq_none (Nat.le_of_not_lt h)]

theorem val_append (a b : List Nat) : val (a ++ b) = val a + B ^ a.length * val b := by
  induction a with
  | nil => simp [val]
  | cons x a ih =>
    simp only [List.cons_append, val, ih, List.length_cons, Nat.pow_succ]
    rw [Nat.mul_add, Nat.mul_comm (B ^ a.length) B, Nat.mul_assoc, Nat.add_assoc]

theorem val_lt {l : List Nat} (h : WF l) : val l < B ^ l.length := by
  induction l with
  | nil => simp [val]
  | cons x l ih =>
    have h1 := ih h.tail
    have h2 := h.head
    simp only [val, List.length_cons, Nat.pow_succ]
    calc x + B * val l < B + B * val l := by omega
      _ = B * (val l + 1) := by rw [Nat.mul_add]; omega
      _ ≤ B * B ^ l.length := Nat.mul_le_mul_left _ h1
      _ = B ^ l.length * B := Nat.mul_comm _ _

def valid (l : List Nat) : Bool := l.isEmpty || l.getD (l.length - 1) 0 != 0

def trimL : List Nat → List Nat
  | [] => []
  | x :: l => match trimL l with
    | [] => if x = 0 then [] else [x]
    | y :: r => x :: y :: r

theorem trimL_val (l : List Nat) : val (trimL l) = val l := by
  induction l with
  | nil => rfl
  | cons x l ih =>
    simp only [trimL]
    cases h : trimL l with
    | nil =>
      rw [h] at ih
      simp only [val] at ih ⊢
      split
      · rename_i hx; simp [hx, val, ← ih]
      · simp [val, ← ih]
    | cons y r =>
      rw [h] at ih
      simp only [val] at ih ⊢
      rw [ih]

theorem trimL_limbs {l : List Nat} (h : WF l) : trimL l = limbs (val l) := by
  induction l with
  | nil => simp [trimL, val, limbs_zero]
  | cons x l ih =>
    have ih := ih h.tail
    have hx := h.head
    have hv := trimL_val l
    have e1 : (x + B * val l) % B = x := by rw [Nat.add_mul_mod_self_left]; exact Nat.mod_eq_of_lt hx
    have e2 : (x + B * val l) / B = val l := by rw [Nat.add_mul_div_left _ _ (by decide)]; simp [Nat.div_eq_of_lt hx]
    simp only [trimL, val]
    cases ht : trimL l with
    | nil =>
      rw [ht] at hv
      simp only [val] at hv
      rw [← hv]
      by_cases h0 : x = 0
      · simp [h0, limbs_zero]
      · have hx' : x % B = x := Nat.mod_eq_of_lt hx
        have hx2 : x / B = 0 := Nat.div_eq_of_lt hx
        rw [Nat.mul_zero, Nat.add_zero, limbs_pos h0, hx', hx2, limbs_zero]
        simp [h0]
    | cons y r =>
      rw [ht] at ih
      have hne : val l ≠ 0 := fun h0 => by rw [h0, limbs_zero] at ih; cases ih
      rw [limbs_pos (by have : B * val l ≠ 0 := Nat.mul_ne_zero (by decide) hne
                        omega), e1, e2, ← ih]

theorem trimL_limbs_self (n : Nat) : trimL (limbs n) = limbs n := by rw [trimL_limbs (wf_limbs n), val_limbs]

theorem trimL_snoc (l : List Nat) (x : Nat) : trimL (l ++ [x]) = if x = 0 then trimL l else l ++ [x] := by
  induction l with
  | nil => simp [trimL]
  | cons y l ih =>
    simp only [List.cons_append, trimL, ih]
    by_cases h0 : x = 0
    · simp only [h0, if_true]
    · simp only [h0, if_false]
      cases l <;> simp

theorem valid_snoc (l : List Nat) (x : Nat) : valid (l ++ [x]) = (x != 0) := by
  simp [valid, List.getD]

theorem list_snoc {l : List Nat} (h : l ≠ []) : l = l.take (l.length - 1) ++ [l.getD (l.length - 1) 0] := by
  have hp : l.length ≠ 0 := fun e => h (List.length_eq_zero_iff.1 e)
  have h1 : l.length - 1 < l.length := by omega
  conv => lhs; rw [← List.take_append_drop (l.length - 1) l]
  congr 1
  rw [List.drop_eq_getElem_cons h1]
  have h2 : l.length - 1 + 1 = l.length := by omega
  simp [h2, List.getD, h1]

theorem valid_trim {l : List Nat} (h : valid l = true) : trimL l = l := by
  by_cases hn : l = []
  · subst hn; rfl
  · rw [list_snoc hn, valid_snoc] at h
    rw [list_snoc hn, trimL_snoc]
    simp only [bne_iff_ne] at h
    rw [if_neg h]

theorem valid_limbs (n : Nat) : valid (limbs n) = true := by
  by_cases hn : limbs n = []
  · rw [hn]; rfl
  · have h := trimL_limbs_self n
    rw [list_snoc hn, trimL_snoc] at h
    rw [list_snoc hn, valid_snoc]
    simp only [bne_iff_ne]
    intro h0
    rw [if_pos h0] at h
    have hlen := congrArg List.length h
    have hle : ∀ l : List Nat, (trimL l).length ≤ l.length := by
      intro l
      induction l with
      | nil => simp [trimL]
      | cons x l ih =>
        simp only [trimL]
        cases ht : trimL l with
        | nil => by_cases h0 : x = 0 <;> simp [h0]
        | cons y r => rw [ht] at ih; simpa using ih
    have := hle ((limbs n).take ((limbs n).length - 1))
    rw [hlen] at this
    simp at this
    have hp : (limbs n).length ≠ 0 := fun e => hn (List.length_eq_zero_iff.1 e)
    omega

def takeL (l : List Nat) : List Nat := if valid l then l else []
def nv (l : List Nat) : Nat := val (takeL l)

theorem takeL_limbs {l : List Nat} (h : WF l) : takeL l = limbs (nv l) := by
  unfold nv takeL
  cases hv : valid l with
  | true => simp only [if_true]; rw [← trimL_limbs h, valid_trim hv]
  | false => simp [val, limbs_zero]
theorem takeL_of (n : Nat) : takeL (limbs n) = limbs n := by simp [takeL, valid_limbs]
theorem nv_limbs (n : Nat) : nv (limbs n) = n := by rw [nv, takeL_of, val_limbs]

theorem length_limbs_le {n k : Nat} (h : n < B ^ k) : (limbs n).length ≤ k := by
  induction k generalizing n with
  | zero => have : n = 0 := by simpa using h
            subst this; simp [limbs_zero]
  | succ k ih =>
    by_cases h0 : n = 0
    · subst h0; simp [limbs_zero]
    · rw [limbs_pos h0]
      have := ih (n := n / B) (Nat.div_lt_of_lt_mul (by rw [Nat.pow_succ, Nat.mul_comm] at h; exact h))
      simpa using this
theorem lt_pow_length (n : Nat) : n < B ^ (limbs n).length := by
  have := val_lt (wf_limbs n)
  rwa [val_limbs] at this
theorem limbs_eq_nil {n : Nat} : limbs n = [] ↔ n = 0 := by
  constructor
  · intro h
    have := val_limbs n
    rw [h] at this; simpa [val] using this.symm
  · intro h; subst h; exact limbs_zero
theorem limbs_inj {m n : Nat} (h : limbs m = limbs n) : m = n := by rw [← val_limbs m, ← val_limbs n, h]
end Go.Vw

/-
  Lists of limbs, more: digit by digit. Conditions: none.
-/
namespace Go.Vw

theorem val_take_succ (l : List Nat) (i : Nat) : val (l.take (i + 1)) = val (l.take i) + B ^ i * l.getD i 0 := by
  by_cases h : i < l.length
  · rw [List.take_add_one, val_append]
    simp [List.getD, h, val, Nat.min_eq_left (Nat.le_of_lt h)]
  · simp [List.getD, List.getElem?_eq_none (Nat.le_of_not_lt h), List.take_of_length_le (Nat.le_of_not_lt h), List.take_of_length_le (show l.length ≤ i + 1 by omega)]
theorem val_take_all (l : List Nat) {i : Nat} (h : l.length ≤ i) : val (l.take i) = val l := by rw [List.take_of_length_le h]
theorem val_snoc (l : List Nat) (x : Nat) : val (l ++ [x]) = val l + B ^ l.length * x := by rw [val_append]; simp [val]
theorem WF.snoc {l : List Nat} (h : WF l) {x : Nat} (hx : x < B) : WF (l ++ [x]) := WF.append h fun y hy => by simp at hy; omega
theorem WF.set {l : List Nat} (h : WF l) (i : Nat) {x : Nat} (hx : x < B) : WF (l.set i x) := fun y hy => by
  rcases List.mem_or_eq_of_mem_set hy with h1 | h1
  · exact h y h1
  · omega
theorem wf_takeL {l : List Nat} (h : WF l) : WF (takeL l) := by unfold takeL; split; exact h; exact WF.nil
theorem takeL_le (l : List Nat) : (takeL l).length ≤ l.length := by unfold takeL; split <;> simp
theorem B_val : B = 4294967296 := rfl

theorem val_split (l : List Nat) (i : Nat) (h : i < l.length) : val l = val (l.take i) + B ^ i * (l.getD i 0 + B * val (l.drop (i + 1))) := by
  conv => lhs; rw [← List.take_append_drop i l, val_append]
  rw [List.length_take, Nat.min_eq_left (Nat.le_of_lt h), List.drop_eq_getElem_cons h]
  simp [val, List.getD, h]

def cmpN (m n : Nat) : Int := if m < n then -1 else if n < m then 1 else 0

theorem cmpN_neg (m n : Nat) : cmpN m n < 0 ↔ m < n := by unfold cmpN; split; omega; split <;> omega
theorem cmpN_zero (m n : Nat) : cmpN m n = 0 ↔ m = n := by unfold cmpN; split; omega; split <;> omega
theorem val_lt_of {a b : List Nat} (ha : WF a) {i : Nat} (h1 : i < a.length) (h2 : i < b.length) (hd : a.drop (i + 1) = b.drop (i + 1)) (h : a.getD i 0 < b.getD i 0) : val a < val b := by
  rw [val_split a i h1, val_split b i h2, hd]
  have h3 := val_lt (ha.take i)
  rw [List.length_take, Nat.min_eq_left (Nat.le_of_lt h1)] at h3
  have : B ^ i * (a.getD i 0 + 1 + B * val (b.drop (i + 1))) ≤ B ^ i * (b.getD i 0 + B * val (b.drop (i + 1))) := Nat.mul_le_mul_left _ (by omega)
  have h4 : B ^ i * (a.getD i 0 + 1 + B * val (b.drop (i + 1))) = B ^ i + B ^ i * (a.getD i 0 + B * val (b.drop (i + 1))) := by
    rw [show a.getD i 0 + 1 + B * val (b.drop (i + 1)) = 1 + (a.getD i 0 + B * val (b.drop (i + 1))) by omega, Nat.mul_add, Nat.mul_one]
  omega
theorem drop_eq_of {a b : List Nat} {i : Nat} (h1 : i < a.length) (h2 : i < b.length) (hd : a.drop (i + 1) = b.drop (i + 1)) (h : a.getD i 0 = b.getD i 0) : a.drop i = b.drop i := by
  rw [List.drop_eq_getElem_cons h1, List.drop_eq_getElem_cons h2, hd]
  simp [List.getD, h1, h2] at h
  rw [h]
theorem lt_of_length {m n : Nat} (h : (limbs m).length < (limbs n).length) : m < n := by
  refine Nat.lt_of_not_le fun hh => ?_
  have := length_limbs_le (Nat.lt_of_le_of_lt hh (lt_pow_length m))
  omega
theorem nv_lt {l : List Nat} (h : WF l) : nv l < B ^ l.length := by
  have := val_lt (wf_takeL h)
  exact Nat.lt_of_lt_of_le this (Nat.pow_le_pow_right (by decide) (takeL_le l))
theorem length_limbs_nv {l : List Nat} (h : WF l) : (limbs (nv l)).length ≤ l.length := length_limbs_le (nv_lt h)
theorem limbs_len_mono {m n : Nat} (h : m ≤ n) : (limbs m).length ≤ (limbs n).length := length_limbs_le (Nat.lt_of_le_of_lt h (lt_pow_length n))
end Go.Vw

/-
  Contracts of the reference's natural numbers: Valid, trim, limb, Take, compare, Add. Conditions: lengths are bounded.
-/
namespace Go.Proofs.YtlphlodailailaaGreat
open Go.Vw
attribute [local irreducible] awp awpL awpR

theorem ref01_Valid (l : List Nat) (hl : l.length < 10000000000000) : Ret Tryz.prog 159 [u32s l] (· = .bool (valid l)) := by
  refine ret_of_awp tab Tryz.func159 rfl rfl (Nat.le_of_ble_eq_true rfl) (fun w0 F0 => ?_)
  repeat' (first
    | (show awpL _ _ _ _ _; first | refine goL ?_ | (refine gdLG ?_ ?_ <;> intro _ <;> try (exfalso; omega)))
    | (show awp _ _ _ _; first | refine goA ?_ | (refine cdG ?_ ?_ <;> intro _ <;> try (exfalso; omega)))
    | (show andThen _ _ _ _; refine goN ?_)
    | (show inBlock _ _ _ _; refine goB ?_)
    | (show retPost _ _ _ _ _; refine finG ?_))
  · rename_i h
    have : l = [] := List.length_eq_zero_iff.1 (by omega)
    subst this; rfl
  · rename_i h
    have hn : l ≠ [] := fun e => h (by simp [e])
    have e : ((l.length : Int) - 1).toNat = l.length - 1 := by omega
    rw [e]
    have hv : valid l = (l.getD (l.length - 1) 0 != 0) := by conv => lhs; rw [list_snoc hn, valid_snoc]
    rw [hv]
    congr 1
    rw [Bool.eq_iff_iff]; simp

theorem trimL_last {m : List Nat} (h : 0 < m.length) (h0 : m.getD (m.length - 1) 0 = 0) : trimL (m.take (m.length - 1)) = trimL m := by
  have hn : m ≠ [] := fun e => by simp [e] at h
  conv => rhs; rw [list_snoc hn, trimL_snoc, if_pos h0]
theorem trimL_done {m : List Nat} (h0 : ¬ m.getD (m.length - 1) 0 = 0) : trimL m = m :=
  valid_trim (by
    have hn : m ≠ [] := fun e => h0 (by simp [e])
    rw [list_snoc hn, valid_snoc, bne_iff_ne]; exact h0)

theorem ref01_trim (l : List Nat) (hl : l.length < 10000000000000) : Ret Tryz.prog 146 [u32s l] (· = u32s (trimL l)) := by
  refine ret_of_awp tab Tryz.func146 rfl rfl (Nat.le_of_ble_eq_true rfl) (fun w0 F0 => ?_)
  repeat' (first
    | (show awpL _ _ _ _ _; first | refine goL ?_ | (refine gdLG ?_ ?_ <;> intro _ <;> try (exfalso; omega)))
    | (show awp _ _ _ _; first | refine goA ?_ | (refine cdG ?_ ?_ <;> intro _ <;> try (exfalso; omega)))
    | (show andThen _ _ _ _; refine goN ?_)
    | (show inBlock _ _ _ _; refine goB ?_)
    | (show retPost _ _ _ _ _; refine finG ?_))
  refine awp_loop1 (fun m : List Nat => ([(0, .d (u32s m))], [])) (fun m => trimL m = trimL l ∧ m.length ≤ l.length) (fun m => m.length) l ⟨rfl, Nat.le_refl _⟩ ⟨rfl, rfl⟩ trivial (fun m hm => ?_)
  obtain ⟨hm1, hm2⟩ := hm
  have e : ((m.length : Int) - 1).toNat = m.length - 1 := by omega
  repeat' (first
    | (show awpL _ _ _ _ _; first | refine goL ?_ | (refine gdLG ?_ ?_ <;> intro _ <;> try (exfalso; omega)))
    | (show awp _ _ _ _; first | refine goA ?_ | (refine cdG ?_ ?_ <;> intro _ <;> try (exfalso; omega)))
    | (show andThen _ _ _ _; refine goN ?_)
    | (show inBlock _ _ _ _; refine goB ?_)
    | (show retPost _ _ _ _ _; refine finG ?_))
  · rename_i h1 h2
    rw [e] at h2
    refine ⟨m.take ((m.length : Int) - 1).toNat, ⟨?_, ?_⟩, ?_, ⟨rfl, rfl⟩, trivial⟩
    · rw [e, trimL_last (by omega) (by omega), hm1]
    · simp; omega
    · simp; omega
  · rename_i h1 h2
    rw [e] at h2
    rw [← hm1, trimL_done (by omega)]
  · rename_i h1
    have : m = [] := List.length_eq_zero_iff.1 (by omega)
    subst this
    rw [← hm1]; rfl

theorem ref01_limb (l : List Nat) (i : Int) (j : Nat) (hij : i.toNat = j) (hl : l.length < 10000000000000) (hw : WF l) (h0 : 0 ≤ i) (h1 : i < 10000000000000) : Ret Tryz.prog 145 [u32s l, .int .i64 i] (· = .int .u64 (l.getD j 0 : Nat)) := by
  subst hij
  have hb := hw.getD i.toNat
  simp only [B_val] at hb
  refine ret_of_awp tab Tryz.func145 rfl rfl (Nat.le_of_ble_eq_true rfl) (fun w0 F0 => ?_)
  repeat' (first
    | (show awpL _ _ _ _ _; first | refine goL ?_ | (refine gdLG ?_ ?_ <;> intro _ <;> try (exfalso; omega)))
    | (show awp _ _ _ _; first | refine goA ?_ | (refine cdG ?_ ?_ <;> intro _ <;> try (exfalso; omega)))
    | (show andThen _ _ _ _; refine goN ?_)
    | (show inBlock _ _ _ _; refine goB ?_)
    | (show retPost _ _ _ _ _; refine finG ?_))
  · rename_i h
    rw [show l.getD i.toNat 0 = 0 from by simp [List.getD, List.getElem?_eq_none (show l.length ≤ i.toNat by omega)]]; rfl
  · rfl
theorem ref01_Take (l : List Nat) (hl : l.length < 10000000000000) : Ret Tryz.prog 130 [u32s l] (· = u32s (takeL l)) := by
  refine ret_of_awp tab Tryz.func130 rfl rfl (Nat.le_of_ble_eq_true rfl) (fun w0 F0 => ?_)
  repeat' (first
    | (show awpL _ _ _ _ _; first | refine goL ?_ | refine cl 159 tt rfl rfl rfl (hr := ref01_Valid _ hl) (k := ?_) | (refine gdLG ?_ ?_ <;> intro _ <;> try (exfalso; omega)))
    | (show awp _ _ _ _; first | refine goA ?_ | (refine cdG ?_ ?_ <;> intro _ <;> try (exfalso; omega)))
    | (show andThen _ _ _ _; refine goN ?_)
    | (show inBlock _ _ _ _; refine goB ?_)
    | (show retPost _ _ _ _ _; refine finG ?_))

  · rename_i e
    simp at e
    simp [takeL, e]
  · rename_i e
    simp at e
    simp [takeL, e]

theorem ref01_compare (m n : Nat) (ha : (limbs m).length < 10000000000000) (hb : (limbs n).length < 10000000000000) : Ret Tryz.prog 162 [u32s (limbs m), u32s (limbs n)] (· = .int .i64 (cmpN m n)) := by
  have wa := wf_limbs m
  have wb := wf_limbs n
  have va := val_limbs m
  have vb := val_limbs n
  have la := @lt_of_length m n
  have lb := @lt_of_length n m
  generalize limbs m = a at *
  generalize limbs n = b at *
  refine ret_of_awp tab Tryz.func162 rfl rfl (Nat.le_of_ble_eq_true rfl) (fun w0 F0 => ?_)
  repeat' (first
    | (show awpL _ _ _ _ _; first | refine goL ?_ | (refine gdLG ?_ ?_ <;> intro _ <;> try (exfalso; omega)))
    | (show awp _ _ _ _; first | refine goA ?_ | refine rg 8 8 ?_ | refine rg 10 8 ?_ | (refine cdG ?_ ?_ <;> intro _ <;> try (exfalso; omega)))
    | (show andThen _ _ _ _; refine goN ?_)
    | (show inBlock _ _ _ _; refine goB ?_)
    | (show awpR _ _ _ _ _ _ _; first | refine goR ?_ | (refine gdRG ?_ ?_ <;> intro _ <;> try (exfalso; omega)))
    | (show retPost _ _ _ _ _; refine finG ?_))
  · have := la (by omega)
    simp only [cmpN, this, if_true]
  · have := lb (by omega)
    simp only [cmpN, show ¬ m < n by omega, this, if_true, if_false]
  · rename_i h
    refine awp_loop1 (fun i : Nat => ([(0, .d (u32s a)), (1, .d (u32s b)), (5, .d (.int .i64 ((i : Int) - 1)))], [])) (fun i => i ≤ a.length ∧ a.drop i = b.drop i) (fun i => i) a.length ⟨Nat.le_refl _, by simp; omega⟩ ⟨rfl, rfl, rfl, rfl⟩ trivial (fun i hi => ?_)
    obtain ⟨h1, h2⟩ := hi
    repeat' (first
      | (show awpL _ _ _ _ _; first | refine goL ?_ | (refine gdLG ?_ ?_ <;> intro _ <;> try (exfalso; omega)))
      | (show awp _ _ _ _; first | refine goA ?_ | refine rg 8 8 ?_ | refine rg 10 8 ?_ | (refine cdG ?_ ?_ <;> intro _ <;> try (exfalso; omega)))
      | (show andThen _ _ _ _; refine goN ?_)
      | (show inBlock _ _ _ _; refine goB ?_)
      | (show awpR _ _ _ _ _ _ _; first | refine goR ?_ | (refine gdRG ?_ ?_ <;> intro _ <;> try (exfalso; omega)))
      | (show retPost _ _ _ _ _; refine finG ?_))
    all_goals first | have e : ((i : Int) - 1).toNat = i - 1 := by omega
    · rename_i h3 h7
      have h6 : i - 1 + 1 = i := by omega
      rw [← h6] at h2
      have := val_lt_of wa (by omega) (by omega) h2 (by rw [e] at h7; omega)
      simp [cmpN, show m < n by omega]
    · rename_i h3 h8 h7
      have h6 : i - 1 + 1 = i := by omega
      rw [← h6] at h2
      have := val_lt_of wb (by omega) (by omega) h2.symm (by rw [e] at h7; omega)
      simp [cmpN, show n < m by omega, show ¬ m < n by omega]
    · rename_i h3 h7 h8
      have h6 : i - 1 + 1 = i := by omega
      rw [← h6] at h2
      rw [e] at h7 h8
      have h9 : a.getD (i - 1) 0 = b.getD (i - 1) 0 := by omega
      exact ⟨i - 1, ⟨by omega, drop_eq_of (by omega) (by omega) h2 h9⟩, by omega, ⟨rfl, rfl, iv (by omega), rfl⟩, trivial⟩
    · have : i = 0 := by omega
      subst this
      have : a = b := by simpa using h2
      simp [cmpN, show ¬ n < m by rw [← va, ← vb, this]; omega, show ¬ m < n by rw [← va, ← vb, this]; omega]

theorem add_step {a b l : List Nat} {c s x y : Nat} (ha : WF a) (hb : WF b) (hl : WF l) (hc : c ≤ 1) (hv : val l + c * B ^ l.length = val (a.take l.length) + val (b.take l.length)) (hs : s = a.getD l.length 0 + b.getD l.length 0 + c) (hx : x = s % 4294967296) (hy : y = s / 4294967296) :
    WF (l ++ [x]) ∧ y ≤ 1 ∧ val (l ++ [x]) + y * B ^ (l ++ [x]).length = val (a.take (l ++ [x]).length) + val (b.take (l ++ [x]).length) := by
  subst hx hy
  have h1 := ha.getD l.length
  have h2 := hb.getD l.length
  simp only [B_val] at h1 h2
  refine ⟨hl.snoc (by rw [B_val]; omega), by omega, ?_⟩
  rw [val_snoc, List.length_append, List.length_singleton, val_take_succ, val_take_succ, Nat.pow_succ]
  have h3 : s % 4294967296 + s / 4294967296 * B = s := by rw [B_val]; omega
  have h4 : B ^ l.length * (s % 4294967296) + s / 4294967296 * (B ^ l.length * B) = B ^ l.length * s := by
    conv => rhs; rw [← h3, Nat.mul_add]
    rw [← Nat.mul_assoc, Nat.mul_comm (s / 4294967296), Nat.mul_assoc]
  rw [Nat.add_assoc, h4, hs, Nat.mul_add, Nat.mul_add]
  rw [Nat.mul_comm c] at hv
  omega

theorem ref01_Add (a b : List Nat) (hla : a.length < 1000000000000) (hlb : b.length < 1000000000000) (wa : WF a) (wb : WF b) : Ret Tryz.prog 115 [u32s a, u32s b] (· = u32s (limbs (nv a + nv b))) := by
  have va : val (takeL a) = nv a := rfl
  have vb : val (takeL b) = nv b := rfl
  have wa' := wf_takeL wa
  have wb' := wf_takeL wb
  have la := takeL_le a
  have lb := takeL_le b
  refine ret_of_awp tab Tryz.func115 rfl rfl (Nat.le_of_ble_eq_true rfl) (fun w0 F0 => ?_)
  repeat' (first
    | (show awpL _ _ _ _ _; first | refine goL ?_ | refine cl 130 tt rfl rfl rfl (hr := ref01_Take _ (by omega)) (k := ?_) | (refine gdLG ?_ ?_ <;> intro _ <;> try (exfalso; omega)))
    | (show awp _ _ _ _; first | refine goA ?_ | (refine cdG ?_ ?_ <;> intro _ <;> try (exfalso; omega)))
    | (show andThen _ _ _ _; refine goN ?_)
    | (show inBlock _ _ _ _; refine goB ?_)
    | (show retPost _ _ _ _ _; refine finG ?_))
  generalize takeL a = a' at *
  generalize takeL b = b' at *
  refine awp_adopt 5 35 99 1 (eN .u32) 0 rfl ?_
  refine awp_loop2 (fun (l : List Nat) (c : Nat) => ([(0, .d (u32s a')), (1, .d (u32s b')), (5, .own 35 0 l.length 99 1), (6, .d (.int .u64 c)), (7, .d (.int .i64 l.length))], [(35, .data 99 1 (eN .u32) 0 l)])) (fun l c => l.length ≤ a'.length + b'.length + 1 ∧ WF l ∧ c ≤ 1 ∧ val l + c * B ^ l.length = val (a'.take l.length) + val (b'.take l.length)) (fun l c => a'.length + b'.length + 2 - l.length) [] 0 ⟨by simp, WF.nil, by simp, by simp [val]⟩ ⟨rfl, rfl, rfl, rfl, rfl, rfl⟩ ⟨rfl, trivial⟩ (fun l c hi => ?_)
  obtain ⟨h1, h2, h3, h4⟩ := hi
  have g1 := wa'.getD l.length
  have g2 := wb'.getD l.length
  simp only [B_val] at g1 g2
  repeat' (first
    | (show awpL _ _ _ _ _; first | refine goL ?_ | refine cl 145 tt rfl rfl rfl (hr := ref01_limb _ _ _ (Int.toNat_natCast _) (by omega) wa' (by omega) (by omega)) (k := ?_) | refine cl 145 tt rfl rfl rfl (hr := ref01_limb _ _ _ (Int.toNat_natCast _) (by omega) wb' (by omega) (by omega)) (k := ?_) | refine cl 146 tt rfl rfl rfl (hr := ref01_trim _ (by omega)) (k := ?_) | (refine gdLG ?_ ?_ <;> intro _ <;> try (exfalso; omega)))
    | (show awp _ _ _ _; first | refine goA ?_ | (refine cdG ?_ ?_ <;> intro _ <;> try (exfalso; omega)))
    | (show andThen _ _ _ _; refine goN ?_)
    | (show inBlock _ _ _ _; refine goB ?_)
    | (show retPost _ _ _ _ _; refine finG ?_))
  · rename_i h
    refine ⟨_, (a'.getD l.length 0 + b'.getD l.length 0 + c) / 4294967296, ⟨?_, add_step wa' wb' h2 h3 h4 rfl ?_ rfl⟩, ?_, ⟨rfl, rfl, rfl, iv (by omega), iv (by simp), rfl⟩, rfl, trivial⟩
    · simp only [List.length_append, List.length_singleton]; omega
    · omega
    · simp only [List.length_append, List.length_singleton]; omega
  · rename_i h
    show u32s _ = u32s _
    have g3 := val_lt wa'
    have g4 := val_lt wb'
    have g5 : a'.length + 1 ≤ l.length := by omega
    have g6 : b'.length + 1 ≤ l.length := by omega
    rw [val_take_all a' (by omega), val_take_all b' (by omega)] at h4
    have g7 := Nat.pow_le_pow_right (show 0 < B by decide) g5
    have g8 := Nat.pow_le_pow_right (show 0 < B by decide) g6
    rw [Nat.pow_succ, B_val] at g7 g8
    rw [B_val] at g3 g4 h4
    have g9 : c = 0 := by
      refine Nat.le_zero.1 (Nat.le_of_not_lt fun hc => ?_)
      have := Nat.mul_le_mul_right (4294967296 ^ l.length) (show 1 ≤ c from hc)
      omega
    subst g9
    rw [trimL_limbs h2, show val l = nv a + nv b by omega]
end Go.Proofs.YtlphlodailailaaGreat

/-
  Lists of limbs: lengths of results, digits and bits. Conditions: none.
-/
namespace Go.Vw

abbrev ln (n : Nat) : Nat := (limbs n).length
theorem lt_ln (n : Nat) : n < B ^ ln n := lt_pow_length n
theorem ln_le {n k : Nat} (h : n < B ^ k) : ln n ≤ k := length_limbs_le h
theorem ln_mono {m n : Nat} (h : m ≤ n) : ln m ≤ ln n := limbs_len_mono h
theorem ln_add (m n : Nat) : ln (m + n) ≤ ln m + ln n + 1 := by
  refine ln_le ?_
  have h1 := lt_ln m
  have h2 := lt_ln n
  have h3 : B ^ ln m ≤ B ^ (ln m + ln n) := Nat.pow_le_pow_right (by decide) (by omega)
  have h4 : B ^ ln n ≤ B ^ (ln m + ln n) := Nat.pow_le_pow_right (by decide) (by omega)
  rw [Nat.pow_succ]
  have : B ^ (ln m + ln n) * 2 ≤ B ^ (ln m + ln n) * B := Nat.mul_le_mul_left _ (by decide)
  omega
theorem ln_add1 {m n k : Nat} (h1 : ln m ≤ k) (h2 : ln n ≤ k) : ln (m + n) ≤ k + 1 := by
  refine ln_le ?_
  have h1' := Nat.lt_of_lt_of_le (lt_ln m) (Nat.pow_le_pow_right (show 0 < B by decide) h1)
  have h2' := Nat.lt_of_lt_of_le (lt_ln n) (Nat.pow_le_pow_right (show 0 < B by decide) h2)
  rw [Nat.pow_succ]
  have : B ^ k * 2 ≤ B ^ k * B := Nat.mul_le_mul_left _ (by decide)
  omega
theorem ln_mul (m n : Nat) : ln (m * n) ≤ ln m + ln n := by
  refine ln_le ?_
  rw [Nat.pow_add]
  by_cases h : n = 0
  · subst h; exact Nat.mul_pos (Nat.pow_pos (by decide)) (Nat.pow_pos (by decide))
  · exact Nat.mul_lt_mul_of_lt_of_le (lt_ln m) (Nat.le_of_lt (lt_ln n)) (Nat.pow_pos (by decide))
theorem ln_zero : ln 0 = 0 := by simp [ln, limbs_zero]
theorem ln_one : ln 1 = 1 := by simp [ln, limbs, B_val]
theorem ln_small {n : Nat} (h : n < B) : ln n ≤ 1 := ln_le (by simpa using h)
theorem limbs_small {n : Nat} (h : n < B) (h0 : n ≠ 0) : limbs n = [n] := by
  rw [limbs_pos h0, Nat.mod_eq_of_lt h, Nat.div_eq_of_lt h, limbs_zero]
theorem nv_val {l : List Nat} (h : valid l = true) : nv l = val l := by simp [nv, takeL, h]
theorem limbs_val {l : List Nat} (h : WF l) (hv : valid l = true) : limbs (val l) = l := by
  rw [← trimL_limbs h, valid_trim hv]
theorem limbs_nv {l : List Nat} (h : WF l) (hv : valid l = true) : limbs (nv l) = l := by rw [nv_val hv, limbs_val h hv]

theorem getD_limbs (n i : Nat) : (limbs n).getD i 0 = n / B ^ i % B := by
  induction i generalizing n with
  | zero =>
    by_cases h : n = 0
    · subst h; simp [limbs_zero]
    · rw [limbs_pos h]; simp
  | succ i ih =>
    by_cases h : n = 0
    · subst h; simp [limbs_zero]
    · rw [limbs_pos h, List.getD_cons_succ, ih, Nat.pow_succ, Nat.mul_comm, ← Nat.div_div_eq_div_mul]

theorem bit_of_limb (n i : Nat) : (limbs n).getD (i / 32) 0 / 2 ^ (i % 32) % 2 = n / 2 ^ i % 2 := by
  rw [getD_limbs]
  have e : n / 2 ^ i = n / B ^ (i / 32) / 2 ^ (i % 32) := by
    rw [Nat.div_div_eq_div_mul, B_val, show (4294967296 : Nat) = 2 ^ 32 from rfl, ← Nat.pow_mul, ← Nat.pow_add, Nat.div_add_mod]
  rw [e]
  generalize n / B ^ (i / 32) = x
  have h : i % 32 < 32 := Nat.mod_lt _ (by decide)
  generalize i % 32 = r at h
  have hB : B = 2 ^ r * (2 * 2 ^ (31 - r)) := by
    rw [← Nat.mul_assoc, Nat.mul_comm (2 ^ r), Nat.mul_assoc, ← Nat.pow_add, show r + (31 - r) = 31 by omega]
  rw [hB, Nat.mod_mul_right_div_self, Nat.mod_mul_right_mod]
theorem div_pow_step (a k : Nat) (h : 0 < k) : a / 2 ^ (k - 1) = 2 * (a / 2 ^ k) + a / 2 ^ (k - 1) % 2 := by
  have e : a / 2 ^ k = a / 2 ^ (k - 1) / 2 := by
    rw [Nat.div_div_eq_div_mul, ← Nat.pow_succ, show (k - 1).succ = k by omega]
  rw [e]; omega
theorem div_bits_zero (n : Nat) : n / 2 ^ (32 * ln n) = 0 := by
  refine Nat.div_eq_of_lt ?_
  rw [Nat.pow_mul]
  exact lt_ln n
end Go.Vw

/-
  Laws of machine words: borrow, halves, powers. Conditions: as each says.
-/
namespace Go.Vw

theorem bit31 (n : Nat) : n.testBit 31 = decide (n / 2147483648 % 2 = 1) := by rw [Nat.testBit_eq_decide_div_mod_eq]
theorem ones31 : (4294967295 : Nat).testBit 31 = true := by decide
theorem borrow_law {x y b d : Nat} (hx : x < 4294967296) (hy : y < 4294967296) (hb : b ≤ 1) (hd : d < 4294967296) (e : (d : Int) = (x : Int) - y - b + (if x < y + b then 4294967296 else 0)) :
    (((4294967295 ^^^ x) &&& y) ||| ((4294967295 ^^^ (x ^^^ y)) &&& d)) / 2147483648 = if x < y + b then 1 else 0 := by
  have hN : (((4294967295 ^^^ x) &&& y) ||| ((4294967295 ^^^ (x ^^^ y)) &&& d)) < 4294967296 := by
    have h1 : ((4294967295 ^^^ x) &&& y) < 2 ^ 32 := Nat.lt_of_le_of_lt Nat.and_le_right hy
    have h2 : ((4294967295 ^^^ (x ^^^ y)) &&& d) < 2 ^ 32 := Nat.lt_of_le_of_lt Nat.and_le_right hd
    exact Nat.or_lt_two_pow h1 h2
  have ht : (((4294967295 ^^^ x) &&& y) ||| ((4294967295 ^^^ (x ^^^ y)) &&& d)).testBit 31 = ((!x.testBit 31 && y.testBit 31) || (!(x.testBit 31 ^^ y.testBit 31) && d.testBit 31)) := by
    simp only [Nat.testBit_or, Nat.testBit_and, Nat.testBit_xor, ones31, Bool.true_bne, Bool.true_xor]
  generalize (((4294967295 ^^^ x) &&& y) ||| ((4294967295 ^^^ (x ^^^ y)) &&& d)) = N at *
  rw [bit31 N, bit31 x, bit31 y, bit31 d] at ht
  have hxl : x / 2147483648 % 2 = 1 ∨ x / 2147483648 % 2 = 0 := by omega
  have hyl : y / 2147483648 % 2 = 1 ∨ y / 2147483648 % 2 = 0 := by omega
  have hdl : d / 2147483648 % 2 = 1 ∨ d / 2147483648 % 2 = 0 := by omega
  rcases hxl with h1 | h1 <;> rcases hyl with h2 | h2 <;> rcases hdl with h3 | h3 <;> rw [h1, h2, h3] at ht <;> simp at ht <;> split at e <;> split <;> omega

theorem or_halves (a b : Nat) (hb : b < 4294967296) : (a * 4294967296) ||| b = a * 4294967296 + b := by
  have := Nat.shiftLeft_add_eq_or_of_lt (i := 32) (b := b) hb a
  rw [Nat.shiftLeft_eq] at this
  exact this.symm
theorem or_low (a b k : Nat) (hb : b < 2 ^ k) : (a * 2 ^ k) ||| b = a * 2 ^ k + b := by
  have := Nat.shiftLeft_add_eq_or_of_lt (i := k) (b := b) hb a
  rw [Nat.shiftLeft_eq] at this
  exact this.symm

/-! ## Long division -/

def est (b u3 v2 : Nat) : Nat := min (u3 / v2) (b - 1)
theorem est_lt {b : Nat} (hb : 0 < b) (u v : Nat) : est b u v < b := by unfold est; omega
section
variable {b t u0 v1 v0 q r : Nat} (hb : 1 < b) (hv : 0 < v1) (he : q * v1 + r = t)
include hb hv he
theorem est_go (hu0 : u0 < b) (hq : est b (t * b + u0) (v1 * b + v0) ≤ q) (hgo : b ≤ q ∨ r * b + u0 < q * v0) :
    1 ≤ q ∧ est b (t * b + u0) (v1 * b + v0) ≤ q - 1 ∧ (q - 1) * v1 + (r + v1) = t := by
  have hvb : 0 < v1 * b := Nat.mul_pos hv (by omega)
  have hq1 : 1 ≤ q := by
    rcases hgo with h | h
    · omega
    · rcases Nat.eq_zero_or_pos q with e | e
      · subst e; rw [Nat.zero_mul] at h; omega
      · exact e
  refine ⟨hq1, ?_, ?_⟩
  · rcases hgo with h | h
    · have := est_lt (show 0 < b by omega) (t * b + u0) (v1 * b + v0); omega
    · have : (t * b + u0) / (v1 * b + v0) < q := by
        rw [Nat.div_lt_iff_lt_mul (by omega), Nat.mul_add, ← Nat.mul_assoc, ← he, Nat.add_mul]
        omega
      unfold est; omega
  · obtain ⟨p, rfl⟩ : ∃ p, q = p + 1 := ⟨q - 1, by omega⟩
    rw [Nat.add_mul] at he
    rw [Nat.add_sub_cancel]
    omega
theorem est_done (hv0 : v0 < b) (hq : est b (t * b + u0) (v1 * b + v0) ≤ q) (hB : r < b ∨ q < b) (hst : r < b → q < b ∧ q * v0 ≤ r * b + u0) : q = est b (t * b + u0) (v1 * b + v0) := by
  have hvb : 0 < v1 * b := Nat.mul_pos hv (by omega)
  have hqB : q < b := by rcases hB with h | h; exact (hst h).1; exact h
  have hle : q * v0 ≤ r * b + u0 := by
    rcases Nat.lt_or_ge r b with h | h
    · exact (hst h).2
    · have h1 : q * v0 ≤ b * b := Nat.mul_le_mul (by omega) (by omega)
      have h2 : b * b ≤ r * b := Nat.mul_le_mul_right _ h
      omega
  have : q ≤ (t * b + u0) / (v1 * b + v0) := by
    rw [Nat.le_div_iff_mul_le (by omega), Nat.mul_add, ← Nat.mul_assoc, ← he, Nat.add_mul]
    omega
  unfold est at hq ⊢; omega
end
theorem est_digit {b W V U3 V2 wl vl P : Nat} (hb : 0 < b) (hP : 0 < P) (hW : W = U3 * P + wl) (hwl : wl < P) (hV : V = V2 * P + vl) (hvl : vl < P) (hV2 : b ≤ V2) (hlt : W < V * b) : W / V ≤ est b U3 V2 ∧ est b U3 V2 ≤ W / V + 1 := by
  have hV0 : 0 < V := by rw [hV]; have := Nat.mul_pos (show 0 < V2 by omega) hP; omega
  constructor
  · have h1 : W / V < b := by rw [Nat.div_lt_iff_lt_mul hV0, Nat.mul_comm]; exact hlt
    have h2 : W / V ≤ U3 / V2 := by
      rw [Nat.le_div_iff_mul_le (by omega)]
      have h3 := Nat.div_mul_le_self W V
      generalize W / V = q at *
      have h4 : q * V2 * P ≤ W := by
        refine Nat.le_trans ?_ h3
        rw [hV, Nat.mul_add, Nat.mul_assoc]; omega
      have h5 : q * V2 * P < (U3 + 1) * P := by rw [Nat.add_mul]; omega
      have := Nat.lt_of_mul_lt_mul_right h5
      omega
    unfold est; omega
  · obtain ⟨e, he⟩ : ∃ e, est b U3 V2 = e := ⟨_, rfl⟩
    rw [he]
    have h1 : e < b := by rw [← he]; exact est_lt hb _ _
    have h2 : e * V2 ≤ U3 := by
      have : e ≤ U3 / V2 := by rw [← he]; unfold est; omega
      exact Nat.le_trans (Nat.mul_le_mul_right _ this) (Nat.div_mul_le_self _ _)
    rcases Nat.eq_zero_or_pos e with h0 | h0
    · rw [h0]; exact Nat.zero_le _
    · obtain ⟨p, rfl⟩ : ∃ p, e = p + 1 := ⟨e - 1, by omega⟩
      have : p ≤ W / V := by
        rw [Nat.le_div_iff_mul_le hV0, hV, hW, Nat.mul_add]
        have h3 : p * vl ≤ p * P := Nat.mul_le_mul_left _ (by omega)
        have h4 : (p * V2 + p) * P ≤ U3 * P := by
          refine Nat.mul_le_mul_right _ ?_
          rw [Nat.add_mul] at h2
          omega
        rw [Nat.add_mul, Nat.mul_assoc] at h4
        omega
      exact Nat.succ_le_succ this
end Go.Vw

namespace Go.Proofs.YtlphlodailailaaGreat
open Go.Vw
attribute [local irreducible] awp awpL awpR

theorem bits_Add32 (x y c : Nat) (hx : x < 4294967296) (hy : y < 4294967296) (hc : c ≤ 1) : Ret Tryz.prog 168 [.int .u32 x, .int .u32 y, .int .u32 c] (· = .tup [.int .u32 ((x + y + c : Nat) % 4294967296 : Nat), .int .u32 ((x + y + c : Nat) / 4294967296 : Nat)]) := by
  refine ret_of_awp tab Tryz.func168 rfl rfl (Nat.le_of_ble_eq_true rfl) (fun w0 F0 => ?_)
  repeat' (first
    | (show awpL _ _ _ _ _; first | refine goL ?_ | (refine gdLG ?_ ?_ <;> intro _ <;> try (exfalso; omega)))
    | (show awp _ _ _ _; first | refine goA ?_ | (refine cdG ?_ ?_ <;> intro _ <;> try (exfalso; omega)))
    | (show andThen _ _ _ _; refine goN ?_)
    | (show inBlock _ _ _ _; refine goB ?_)
    | (show retPost _ _ _ _ _; refine finTG ?_))
  refine LeT.cons (LeD.eqi ?_) (LeT.cons (LeD.eqi ?_) LeT.nil) <;> omega
theorem bits_Sub32 (x y c : Nat) (hx : x < 4294967296) (hy : y < 4294967296) (hc : c ≤ 1) : Ret Tryz.prog 174 [.int .u32 x, .int .u32 y, .int .u32 c] (· = .tup [.int .u32 ((x : Int) - y - c + (if x < y + c then 4294967296 else 0)), .int .u32 (if x < y + c then 1 else 0)]) := by
  have hd : ((((x : Int) - y) % 4294967296 - c) % 4294967296) = (x : Int) - y - c + (if x < y + c then 4294967296 else 0) := by split <;> omega
  have hd0 : 0 ≤ ((((x : Int) - y) % 4294967296 - c) % 4294967296) ∧ ((((x : Int) - y) % 4294967296 - c) % 4294967296) < 4294967296 := by omega
  have hA : ((4294967296 - 1 : Int).toNat ^^^ (x : Int).toNat) < 4294967296 := Nat.xor_lt_two_pow (n := 32) (by decide) (by simpa using hx)
  have hX : ((x : Int).toNat ^^^ (y : Int).toNat) < 4294967296 := Nat.xor_lt_two_pow (n := 32) (by simpa using hx) (by simpa using hy)
  have hY : ((4294967296 - 1 : Int).toNat ^^^ ((((x : Int).toNat ^^^ (y : Int).toNat : Nat) : Int)).toNat) < 4294967296 := Nat.xor_lt_two_pow (n := 32) (by decide) (by simpa using hX)
  have hP : ((((4294967296 - 1 : Int).toNat ^^^ (x : Int).toNat : Nat) : Int).toNat &&& (y : Int).toNat) < 4294967296 := Nat.lt_of_le_of_lt Nat.and_le_right (by simpa using hy)
  have hQ : (((((4294967296 - 1 : Int).toNat ^^^ ((((x : Int).toNat ^^^ (y : Int).toNat : Nat) : Int)).toNat : Nat) : Int)).toNat &&& ((((x : Int) - y) % 4294967296 - c) % 4294967296).toNat) < 4294967296 := Nat.lt_of_le_of_lt Nat.and_le_right (by omega)
  obtain ⟨d, hdd⟩ : ∃ d : Nat, ((((x : Int) - y) % 4294967296 - c) % 4294967296) = d := ⟨((((x : Int) - y) % 4294967296 - c) % 4294967296).toNat, by omega⟩
  have law := borrow_law (d := d) hx hy hc (by omega) (by rw [← hdd, hd])
  refine ret_of_awp tab Tryz.func174 rfl rfl (Nat.le_of_ble_eq_true rfl) (fun w0 F0 => ?_)
  repeat' (first
    | (show awpL _ _ _ _ _; first | refine goL ?_ | (refine gdLG ?_ ?_ <;> intro _ <;> try (exfalso; omega)))
    | (show awp _ _ _ _; first | refine goA ?_ | (refine cdG ?_ ?_ <;> intro _ <;> try (exfalso; omega)))
    | (show andThen _ _ _ _; refine goN ?_)
    | (show inBlock _ _ _ _; refine goB ?_)
    | (show retPost _ _ _ _ _; refine finTG ?_))
  refine LeT.cons (LeD.eqi ?_) (LeT.cons (LeD.eqi ?_) LeT.nil)
  · exact hd
  · rw [hdd]
    simp only [Int.toNat_natCast, show (4294967296 - 1 : Int).toNat = 4294967295 from rfl]
    have e : ∀ n : Nat, ((n : Nat) : Int) / 2147483648 = ((n / 2147483648 : Nat) : Int) := fun n => by omega
    rw [e, law]
    split <;> rfl
theorem bits_Div32 (h l d : Nat) (hh : h < d) (hl : l < 4294967296) (hd : d < 4294967296) : Ret Tryz.prog 177 [.int .u32 h, .int .u32 l, .int .u32 d] (· = .tup [.int .u32 ((h * 4294967296 + l) / d : Nat), .int .u32 ((h * 4294967296 + l) % d : Nat)]) := by
  have ho := or_halves h l hl
  have e1 : ((h : Int) * 4294967296).toNat = h * 4294967296 := by omega
  have e2 : (((h : Int) * 4294967296).toNat ||| ((l : Int)).toNat) = h * 4294967296 + l := by rw [e1, Int.toNat_natCast, ho]
  refine ret_of_awp tab Tryz.func177 rfl rfl (Nat.le_of_ble_eq_true rfl) (fun w0 F0 => ?_)
  repeat' (first
    | (show awpL _ _ _ _ _; first | refine goL ?_ | (refine gdLG ?_ ?_ <;> intro _ <;> try (exfalso; omega)))
    | (show awp _ _ _ _; first | refine goA ?_ | refine rg 4 11 ?_ | (refine cdG ?_ ?_ <;> intro _ <;> try (exfalso; omega)))
    | (show andThen _ _ _ _; refine goN ?_)
    | (show inBlock _ _ _ _; refine goB ?_)
    | (show awpR _ _ _ _ _ _ _; first | refine goR ?_ | (refine gdRG ?_ ?_ <;> intro _ <;> try (exfalso; omega)))
    | (show retPost _ _ _ _ _; refine finTG ?_))
  rw [e2]
  have q1 : (h * 4294967296 + l) / d < 4294967296 := by
    rw [Nat.div_lt_iff_lt_mul (by omega)]
    have := Nat.mul_le_mul_right 4294967296 (show h + 1 ≤ d from hh)
    rw [Nat.mul_comm 4294967296]; omega
  have q2 : (h * 4294967296 + l) % d < 4294967296 := Nat.lt_trans (Nat.mod_lt _ (by omega)) hd
  generalize h * 4294967296 + l = n at *
  refine LeT.cons (LeD.eqi ?_) (LeT.cons (LeD.eqi ?_) LeT.nil)
  · rw [← Int.natCast_ediv]; exact Int.emod_eq_of_lt (Int.natCast_nonneg _) (Int.ofNat_lt.2 q1)
  · rw [← Int.natCast_emod]; exact Int.emod_eq_of_lt (Int.natCast_nonneg _) (Int.ofNat_lt.2 q2)
end Go.Proofs.YtlphlodailailaaGreat

/-
  Sums, differences and products of lists of limbs, limb by limb into a row that lies ready. Conditions: as each says.
-/
namespace Go.Vw
theorem take_set_succ (l : List Nat) (i x : Nat) (h : i < l.length) : (l.set i x).take (i + 1) = l.take i ++ [x] := by
  rw [List.take_add_one, List.take_set_of_le (Nat.le_refl _)]
  simp [h]
theorem val_take_set (l : List Nat) (i x : Nat) (h : i < l.length) : val ((l.set i x).take (i + 1)) = val (l.take i) + B ^ i * x := by
  rw [take_set_succ l i x h, val_snoc, List.length_take, Nat.min_eq_left (by omega)]
theorem wf_replicate (n : Nat) : WF (List.replicate n 0) := fun x hx => by
  have := List.eq_of_mem_replicate hx
  subst this; decide
theorem getD_take_le (l : List Nat) (i : Nat) (h : l.length ≤ i) : l.getD i 0 = 0 := by
  rw [List.getD_eq_getElem?_getD, List.getElem?_eq_none h]; rfl
theorem addL_step {a b o : List Nat} {i c : Nat} (ha : WF a) (hb : WF b) (ho : WF o) (hi : i < o.length) (hc : c ≤ 1) (hv : val (o.take i) + c * B ^ i = val (a.take i) + val (b.take i)) :
    WF (o.set i ((a.getD i 0 + b.getD i 0 + c) % 4294967296)) ∧ (a.getD i 0 + b.getD i 0 + c) / 4294967296 ≤ 1 ∧ val ((o.set i ((a.getD i 0 + b.getD i 0 + c) % 4294967296)).take (i + 1)) + (a.getD i 0 + b.getD i 0 + c) / 4294967296 * B ^ (i + 1) = val (a.take (i + 1)) + val (b.take (i + 1)) := by
  have h1 := ha.getD i
  have h2 := hb.getD i
  simp only [B_val] at h1 h2
  refine ⟨ho.set _ (by rw [B_val]; omega), by omega, ?_⟩
  rw [val_take_set o i _ hi, val_take_succ a, val_take_succ b, Nat.pow_succ]
  obtain ⟨s, hs⟩ : ∃ s, a.getD i 0 + b.getD i 0 + c = s := ⟨_, rfl⟩
  rw [hs]
  have h3 : s % 4294967296 + s / 4294967296 * B = s := by rw [B_val]; omega
  have h4 : B ^ i * (s % 4294967296) + s / 4294967296 * (B ^ i * B) = B ^ i * s := by
    conv => rhs; rw [← h3, Nat.mul_add]
    rw [← Nat.mul_assoc, Nat.mul_comm (s / 4294967296), Nat.mul_assoc]
  rw [Nat.add_assoc, h4, ← hs, Nat.mul_add, Nat.mul_add]
  rw [Nat.mul_comm c] at hv
  omega
theorem subL_step {a b o : List Nat} {i c : Nat} (ha : WF a) (hb : WF b) (ho : WF o) (hi : i < o.length) (hc : c ≤ 1) {d : Nat} (hv : val (o.take i) + val (b.take i) = val (a.take i) + c * B ^ i) (hd : (d : Int) = (a.getD i 0 : Int) - b.getD i 0 - c + (if a.getD i 0 < b.getD i 0 + c then 4294967296 else 0)) :
    WF (o.set i d) ∧ val ((o.set i d).take (i + 1)) + val (b.take (i + 1)) = val (a.take (i + 1)) + (if a.getD i 0 < b.getD i 0 + c then 1 else 0) * B ^ (i + 1) := by
  have h1 := ha.getD i
  have h2 := hb.getD i
  simp only [B_val] at h1 h2
  refine ⟨ho.set _ (by rw [B_val]; split at hd <;> omega), ?_⟩
  rw [val_take_set o i _ hi, val_take_succ a, val_take_succ b, Nat.pow_succ]
  obtain ⟨x, hx⟩ : ∃ x, a.getD i 0 = x := ⟨_, rfl⟩
  obtain ⟨y, hy⟩ : ∃ y, b.getD i 0 = y := ⟨_, rfl⟩
  rw [hx, hy] at hd ⊢
  obtain ⟨e, he, hde⟩ : ∃ e, (if x < y + c then 1 else 0) = e ∧ d + y + c = x + e * B := by
    refine ⟨_, rfl, ?_⟩
    rw [B_val]
    split at hd <;> split <;> omega
  rw [he]
  have h4 : B ^ i * d + B ^ i * y + B ^ i * c = B ^ i * x + e * (B ^ i * B) := by
    rw [← Nat.mul_add, ← Nat.mul_add, hde, Nat.mul_add]
    congr 1
    rw [← Nat.mul_assoc, ← Nat.mul_assoc, Nat.mul_comm (B ^ i) e]
  rw [Nat.mul_comm c] at hv
  omega
theorem val_drop (l : List Nat) (i : Nat) (h : i < l.length) : val (l.drop i) = l.getD i 0 + B * val (l.drop (i + 1)) := by
  rw [List.drop_eq_getElem_cons h, val]
  rw [List.getD_eq_getElem?_getD, List.getElem?_eq_getElem h]; rfl
theorem val_set (l : List Nat) (k x : Nat) (h : k < l.length) : val (l.set k x) + B ^ k * l.getD k 0 = val l + B ^ k * x := by
  have h1 := val_split l k h
  have h2 := val_split (l.set k x) k (by simpa using h)
  rw [List.take_set_of_le (Nat.le_refl _), List.drop_set_of_lt (by omega)] at h2
  have h3 : (l.set k x).getD k 0 = x := by simp [List.getD_eq_getElem?_getD, h]
  rw [h3] at h2
  rw [h1, h2, Nat.mul_add, Nat.mul_add]
  omega
theorem mulL_step {o : List Nat} {k n c x y S T : Nat} (ho : WF o) (hk : k < n) (hn : n ≤ o.length) (hx : x < 4294967296) (hy : y < 4294967296) (hc : c < 4294967296) (hv : val (o.take n) + c * B ^ k = S + T) :
    x * y + o.getD k 0 + c < 18446744073709551616 ∧ WF (o.set k ((x * y + o.getD k 0 + c) % 4294967296)) ∧ (x * y + o.getD k 0 + c) / 4294967296 < 4294967296 ∧ val ((o.set k ((x * y + o.getD k 0 + c) % 4294967296)).take n) + (x * y + o.getD k 0 + c) / 4294967296 * B ^ (k + 1) = S + (T + B ^ k * (x * y)) := by
  have h1 := ho.getD k
  simp only [B_val] at h1
  have hxy : x * y ≤ 4294967295 * 4294967295 := Nat.mul_le_mul (by omega) (by omega)
  refine ⟨by omega, ho.set _ (by rw [B_val]; omega), by omega, ?_⟩
  rw [List.take_set]
  have hg : (o.take n).getD k 0 = o.getD k 0 := by simp [List.getD_eq_getElem?_getD, List.getElem?_take, hk]
  have h2 := val_set (o.take n) k ((x * y + o.getD k 0 + c) % 4294967296) (by simp; omega)
  rw [hg] at h2
  obtain ⟨s, hs⟩ : ∃ s, x * y + o.getD k 0 + c = s := ⟨_, rfl⟩
  rw [hs] at h2 ⊢
  have h3 : s % 4294967296 + s / 4294967296 * B = s := by rw [B_val]; omega
  have h4 : B ^ k * (s % 4294967296) + s / 4294967296 * (B ^ k * B) = B ^ k * (x * y) + B ^ k * o.getD k 0 + B ^ k * c := by
    rw [← Nat.mul_add, ← Nat.mul_add, hs]
    conv => rhs; rw [← h3, Nat.mul_add]
    rw [← Nat.mul_assoc, Nat.mul_comm (s / 4294967296), Nat.mul_assoc]
  rw [Nat.pow_succ]
  rw [Nat.mul_comm c] at hv
  omega
theorem shortL_step {a q : List Nat} {i d r : Nat} (ha : WF a) (hq : WF q) (hi : i < a.length) (hqi : i < q.length) (hd : 0 < d) (hdB : d < 4294967296) (hr : r < d) (hv : val (a.drop (i + 1)) = val (q.drop (i + 1)) * d + r) :
    (r * 4294967296 + a.getD i 0) / d < 4294967296 ∧ (r * 4294967296 + a.getD i 0) % d < d ∧ WF (q.set i ((r * 4294967296 + a.getD i 0) / d)) ∧ val (a.drop i) = val ((q.set i ((r * 4294967296 + a.getD i 0) / d)).drop i) * d + (r * 4294967296 + a.getD i 0) % d := by
  have h1 := ha.getD i
  simp only [B_val] at h1
  have hlt : (r * 4294967296 + a.getD i 0) / d < 4294967296 := by
    rw [Nat.div_lt_iff_lt_mul hd]
    have := Nat.mul_le_mul_right 4294967296 (show r + 1 ≤ d from hr)
    rw [Nat.mul_comm 4294967296]; omega
  refine ⟨hlt, Nat.mod_lt _ hd, hq.set _ (by rw [B_val]; exact hlt), ?_⟩
  rw [val_drop a i hi, val_drop (q.set i _) i (by simpa using hqi), List.drop_set_of_lt (by omega), hv]
  have h3 : (q.set i ((r * 4294967296 + a.getD i 0) / d)).getD i 0 = (r * 4294967296 + a.getD i 0) / d := by simp [List.getD_eq_getElem?_getD, hqi]
  rw [h3]
  have h4 := Nat.div_add_mod (r * 4294967296 + a.getD i 0) d
  generalize (r * 4294967296 + a.getD i 0) % d = f at *
  generalize (r * 4294967296 + a.getD i 0) / d = e at *
  rw [Nat.mul_comm d] at h4
  rw [Nat.add_mul, Nat.mul_add, B_val, Nat.mul_assoc]
  omega
end Go.Vw

namespace Go.Proofs.YtlphlodailailaaGreat
open Go.Vw
attribute [local irreducible] awp awpL awpR

theorem sub_step {a b l : List Nat} {c x y : Nat} (ha : WF a) (hb : WF b) (hl : WF l) (hc : c ≤ 1) (hv : val l + val (b.take l.length) = val (a.take l.length) + c * B ^ l.length) (hx : x = (a.getD l.length 0 + 4294967296 - b.getD l.length 0 - c) % 4294967296) (hy : y = 1 - (a.getD l.length 0 + 4294967296 - b.getD l.length 0 - c) / 4294967296) :
    WF (l ++ [x]) ∧ y ≤ 1 ∧ val (l ++ [x]) + val (b.take (l ++ [x]).length) = val (a.take (l ++ [x]).length) + y * B ^ (l ++ [x]).length := by
  have h1 := ha.getD l.length
  have h2 := hb.getD l.length
  simp only [B_val] at h1 h2
  refine ⟨hl.snoc (by rw [B_val]; omega), by omega, ?_⟩
  rw [val_snoc, List.length_append, List.length_singleton, val_take_succ, val_take_succ, Nat.pow_succ]
  have h3 : x + b.getD l.length 0 + c = a.getD l.length 0 + y * B := by rw [B_val]; omega
  have h4 : B ^ l.length * x + B ^ l.length * b.getD l.length 0 + c * B ^ l.length = B ^ l.length * a.getD l.length 0 + y * (B ^ l.length * B) := by
    rw [Nat.mul_comm c, ← Nat.mul_add, ← Nat.mul_add, h3, Nat.mul_add, Nat.mul_comm y B, Nat.mul_comm y, ← Nat.mul_assoc]
  omega

theorem ref01_Sub (a b : List Nat) (hla : a.length < 1000000000000) (hlb : b.length < 1000000000000) (wa : WF a) (wb : WF b) : Ret Tryz.prog 135 [u32s a, u32s b] (· = .tup [u32s (limbs (nv a - nv b)), .bool (decide (nv b ≤ nv a))]) := by
  have la := length_limbs_nv wa
  have lb := length_limbs_nv wb
  have ea := takeL_limbs wa
  have eb := takeL_limbs wb
  generalize nv a = m at *
  generalize nv b = n at *
  have wa' := wf_limbs m
  have wb' := wf_limbs n
  have va := val_limbs m
  have vb := val_limbs n
  have ta := ref01_Take a (by omega)
  have tb := ref01_Take b (by omega)
  rw [ea] at ta
  rw [eb] at tb
  have hcmp := ref01_compare m n (by omega) (by omega)
  have lc := @limbs_len_mono n m
  generalize limbs m = a' at *
  generalize limbs n = b' at *
  refine ret_of_awp tab Tryz.func135 rfl rfl (Nat.le_of_ble_eq_true rfl) (fun w0 F0 => ?_)
  repeat' (first
    | (show awpL _ _ _ _ _; first | refine goL ?_ | refine cl 130 tt rfl rfl rfl (hr := ta) (k := ?_) | refine cl 130 tt rfl rfl rfl (hr := tb) (k := ?_) | refine cl 162 tt rfl rfl rfl (hr := hcmp) (k := ?_) | (refine gdLG ?_ ?_ <;> intro _ <;> try (exfalso; omega)))
    | (show awp _ _ _ _; first | refine goA ?_ | (refine cdG ?_ ?_ <;> intro _ <;> try (exfalso; omega)))
    | (show andThen _ _ _ _; refine goN ?_)
    | (show inBlock _ _ _ _; refine goB ?_)
    | (show retPost _ _ _ _ _; refine finTG ?_))
  · rename_i h
    have h := (cmpN_neg m n).1 h
    rw [show m - n = 0 by omega, limbs_zero, decide_eq_false (show ¬ n ≤ m by omega)]
    exact leT
  rename_i h
  have h := mt (cmpN_neg m n).2 h
  have lc := lc (by omega)
  refine awp_adopt 6 38 99 1 (eN .u32) 0 rfl ?_
  refine awp_loop2 (fun (l : List Nat) (c : Nat) => ([(0, .d (u32s a')), (1, .d (u32s b')), (6, .own 38 0 l.length 99 1), (7, .d (.int .u64 c)), (8, .d (.int .i64 l.length))], [(38, .data 99 1 (eN .u32) 0 l)])) (fun l c => l.length ≤ a'.length ∧ WF l ∧ c ≤ 1 ∧ val l + val (b'.take l.length) = val (a'.take l.length) + c * B ^ l.length) (fun l c => a'.length - l.length) [] 0 ⟨by simp, WF.nil, by simp, by simp [val]⟩ ⟨rfl, rfl, rfl, rfl, rfl, rfl⟩ ⟨rfl, trivial⟩ (fun l c hi => ?_)
  obtain ⟨h1, h2, h3, h4⟩ := hi
  have g1 := wa'.getD l.length
  have g2 := wb'.getD l.length
  simp only [B_val] at g1 g2
  repeat' (first
    | (show awpL _ _ _ _ _; first | refine goL ?_ | refine cl 145 tt rfl rfl rfl (hr := ref01_limb _ _ _ (Int.toNat_natCast _) (by omega) wa' (by omega) (by omega)) (k := ?_) | refine cl 145 tt rfl rfl rfl (hr := ref01_limb _ _ _ (Int.toNat_natCast _) (by omega) wb' (by omega) (by omega)) (k := ?_) | refine cl 146 tt rfl rfl rfl (hr := ref01_trim _ (by omega)) (k := ?_) | (refine gdLG ?_ ?_ <;> intro _ <;> try (exfalso; omega)))
    | (show awp _ _ _ _; first | refine goA ?_ | (refine cdG ?_ ?_ <;> intro _ <;> try (exfalso; omega)))
    | (show andThen _ _ _ _; refine goN ?_)
    | (show inBlock _ _ _ _; refine goB ?_)
    | (show retPost _ _ _ _ _; refine finTG ?_))
  · exact ⟨_, 1 - (a'.getD l.length 0 + 4294967296 - b'.getD l.length 0 - c) / 4294967296, ⟨by simp; omega, sub_step wa' wb' h2 h3 h4 (by omega) rfl⟩, by simp; omega, ⟨rfl, rfl, rfl, iv (by omega), iv (by simp), rfl⟩, rfl, trivial⟩
  · rename_i h5
    rw [val_take_all a' (by omega), val_take_all b' (by omega)] at h4
    have g3 := val_lt h2
    have g9 : c = 0 := by
      refine Nat.le_zero.1 (Nat.le_of_not_lt fun hc => ?_)
      have := Nat.mul_le_mul_right (B ^ l.length) (show 1 ≤ c from hc)
      omega
    subst g9
    rw [trimL_limbs h2, show val l = m - n by omega, decide_eq_true (show n ≤ m by omega)]
    exact leT

theorem times_step {a l : List Nat} {c s x y v by' i : Nat} (ha : WF a) (hl : WF l) (hc : c < B) (hvB : v < B) (hi : l.length = by' + i) (hv : val l + c * B ^ l.length = B ^ by' * (val (a.take i) * v)) (hs : s = a.getD i 0 * v + c) (hx : x = s % 4294967296) (hy : y = s / 4294967296) :
    WF (l ++ [x]) ∧ y < B ∧ val (l ++ [x]) + y * B ^ (l ++ [x]).length = B ^ by' * (val (a.take (i + 1)) * v) := by
  have h1 := ha.getD i
  have h0 : s < B * B := by
    have := Nat.mul_le_mul (Nat.le_sub_one_of_lt h1) (Nat.le_sub_one_of_lt hvB)
    rw [B_val] at *; omega
  refine ⟨hl.snoc (by rw [B_val]; omega), by rw [B_val] at *; omega, ?_⟩
  rw [val_snoc, List.length_append, List.length_singleton, val_take_succ, Nat.pow_succ]
  have h3 : x + y * B = s := by rw [B_val]; omega
  have h4 : B ^ l.length * x + y * (B ^ l.length * B) = B ^ l.length * s := by
    rw [← h3, Nat.mul_add, Nat.mul_comm y B, Nat.mul_comm y, Nat.mul_assoc]
  rw [Nat.add_assoc, h4, hs, Nat.mul_add, Nat.add_mul, Nat.mul_add, ← hv, hi, Nat.pow_add]
  have : B ^ by' * (B ^ i * a.getD i 0 * v) = B ^ by' * B ^ i * (a.getD i 0 * v) := by
    simp only [Nat.mul_assoc]
  rw [this, Nat.mul_comm c]; omega

theorem val_rep (n : Nat) : val (List.replicate n 0) = 0 := by
  induction n with
  | zero => rfl
  | succ n ih => rw [List.replicate_succ, val, ih]; rfl
theorem wf_rep (n : Nat) : WF (List.replicate n 0) := fun x hx => by rw [List.eq_of_mem_replicate hx]; decide

theorem ref01_times (m v k : Nat) (hm : (limbs m).length < 100000000000) (hv : v < 4294967296) (hk : k < 100000000000) : Ret Tryz.prog 142 [u32s (limbs m), .int .u32 v, .int .i64 k] (· = u32s (limbs (m * v * B ^ k))) := by
  have wa := wf_limbs m
  have va := val_limbs m
  generalize limbs m = a at *
  refine ret_of_awp tab Tryz.func142 rfl rfl (Nat.le_of_ble_eq_true rfl) (fun w0 F0 => ?_)
  repeat' (first
    | (show awpL _ _ _ _ _; first | refine goL ?_ | (refine gdLG ?_ ?_ <;> intro _ <;> try (exfalso; omega)))
    | (show awp _ _ _ _; first | refine goA ?_ | (refine cdG ?_ ?_ <;> intro _ <;> try (exfalso; omega)))
    | (show andThen _ _ _ _; refine goN ?_)
    | (show inBlock _ _ _ _; refine goB ?_)
    | (show retPost _ _ _ _ _; refine finG ?_))
  refine awp_loop2 (fun (l : List Nat) (c : Nat) => ([(0, .d (u32s a)), (1, .d (.int .u32 v)), (7, .own 12 0 l.length 99 1), (8, .d (.int .u64 c)), (9, .d (.int .i64 (l.length - k)))], [(12, .data 99 1 (eN .u32) 0 l)])) (fun l c => k ≤ l.length ∧ l.length ≤ a.length + k + 1 ∧ WF l ∧ c < B ∧ val l + c * B ^ l.length = B ^ k * (val (a.take (l.length - k)) * v)) (fun l c => a.length + k + 1 - l.length) (List.replicate k 0) 0 ⟨by simp, by simp; omega, wf_rep _, by decide, by simp [val_rep, val]⟩ ⟨rfl, rfl, by simp; rfl, rfl, iv (by simp), rfl⟩ ⟨rfl, trivial⟩ (fun l c hi => ?_)
  obtain ⟨h1, h1', h2, h3, h4⟩ := hi
  have g1 := wa.getD (l.length - k)
  simp only [B_val] at g1 h3
  have g2 : a.getD (l.length - k) 0 * v ≤ 4294967295 * 4294967295 := Nat.mul_le_mul (by omega) (by omega)
  repeat' (first
    | (show awpL _ _ _ _ _; first | refine goL ?_ | refine cl 145 tt rfl rfl rfl (hr := ref01_limb _ _ (l.length - k) (by omega) (by omega) wa (by omega) (by omega)) (k := ?_) | refine cl 146 tt rfl rfl rfl (hr := ref01_trim _ (by omega)) (k := ?_) | (refine gdLG ?_ ?_ <;> intro _ <;> try (exfalso; omega)))
    | (show awp _ _ _ _; first | refine goA ?_ | (refine cdG ?_ ?_ <;> intro _ <;> try (exfalso; omega)))
    | (show andThen _ _ _ _; refine goN ?_)
    | (show inBlock _ _ _ _; refine goB ?_)
    | (show retPost _ _ _ _ _; refine finG ?_))
  · rename_i h5
    exact ⟨_, (a.getD (l.length - k) 0 * v + c) / 4294967296, ⟨by simp; omega, by simp; omega, by
      have := times_step (a := a) (i := l.length - k) (by' := k) wa h2 h3 hv (by omega) h4 rfl rfl rfl
      rw [show l.length - k + 1 = (l ++ [(a.getD (l.length - k) 0 * v + c) % 4294967296]).length - k by simp; omega] at this
      rw [show (((a.getD (l.length - k) 0 : Nat) * (v : Nat) + (c : Nat) : Int) % 4294967296).toNat = (a.getD (l.length - k) 0 * v + c) % 4294967296 by omega]
      exact this⟩, by simp; omega, ⟨rfl, rfl, rfl, iv (by omega), iv (by simp; omega), rfl⟩, rfl, trivial⟩
  · rename_i h5
    rw [val_take_all a (by omega)] at h4
    have g3 := val_lt wa
    have g9 : c = 0 := by
      refine Nat.le_zero.1 (Nat.le_of_not_lt fun hc => ?_)
      have h6 := Nat.mul_le_mul_right (B ^ l.length) (show 1 ≤ c from hc)
      have h7 : val a * v < B ^ a.length * B := Nat.mul_lt_mul_of_lt_of_le g3 (by rw [B_val]; omega) (by decide)
      have h8 := Nat.mul_lt_mul_of_pos_left h7 (Nat.pow_pos (n := k) (show 0 < B by decide))
      rw [← Nat.pow_succ, ← Nat.pow_add, show k + a.length.succ = l.length by omega] at h8
      omega
    subst g9
    rw [trimL_limbs h2, ← va, show val l = val a * v * B ^ k by rw [Nat.mul_comm _ (B ^ k)]; omega]

theorem mul_len {m n k l : Nat} (h : ln m ≤ k) (h2 : ln n ≤ l) : ln (m * n) ≤ k + l := Nat.le_trans (ln_mul m n) (by omega)

theorem ref01_TakeN (n : Nat) (h : (limbs n).length < 1000000000000) : Ret Tryz.prog 130 [u32s (limbs n)] (· = u32s (limbs n)) := by
  have := ref01_Take (limbs n) (by omega)
  rw [takeL_of] at this
  exact this
theorem ref01_TakeV (l : List Nat) (wl : WF l) (h : l.length < 1000000000000) : Ret Tryz.prog 130 [u32s l] (· = u32s (limbs (nv l))) := by
  have := ref01_Take l (by omega)
  rw [takeL_limbs wl] at this
  exact this
theorem ref01_AddN (m n : Nat) (hm : (limbs m).length < 1000000000000) (hn : (limbs n).length < 1000000000000) : Ret Tryz.prog 115 [u32s (limbs m), u32s (limbs n)] (· = u32s (limbs (m + n))) := by
  have := ref01_Add (limbs m) (limbs n) hm hn (wf_limbs m) (wf_limbs n)
  rw [nv_limbs, nv_limbs] at this
  exact this
theorem ref01_SubN (m n : Nat) (hm : (limbs m).length < 1000000000000) (hn : (limbs n).length < 1000000000000) : Ret Tryz.prog 135 [u32s (limbs m), u32s (limbs n)] (· = .tup [u32s (limbs (m - n)), .bool (decide (n ≤ m))]) := by
  have := ref01_Sub (limbs m) (limbs n) hm hn (wf_limbs m) (wf_limbs n)
  rw [nv_limbs, nv_limbs] at this
  exact this

theorem ref01_Mul (a b : List Nat) (hla : a.length < 10000000000) (hlb : b.length < 10000000000) (wa : WF a) (wb : WF b) : Ret Tryz.prog 104 [u32s a, u32s b] (· = u32s (limbs (nv a * nv b))) := by
  have la := length_limbs_nv wa
  have lb := length_limbs_nv wb
  have ta := ref01_TakeV a wa (by omega)
  have tb := ref01_TakeV b wb (by omega)
  generalize nv a = m at *
  generalize nv b = n at *
  have wb' := wf_limbs n
  have vb := val_limbs n
  generalize limbs n = b' at *
  refine ret_of_awp tab Tryz.func104 rfl rfl (Nat.le_of_ble_eq_true rfl) (fun w0 F0 => ?_)
  repeat' (first
    | (show awpL _ _ _ _ _; first | refine goL ?_ | refine cl 130 tt rfl rfl rfl (hr := ta) (k := ?_) | refine cl 130 tt rfl rfl rfl (hr := tb) (k := ?_) | (refine gdLG ?_ ?_ <;> intro _ <;> try (exfalso; omega)))
    | (show awp _ _ _ _; first | refine goA ?_ | (refine cdG ?_ ?_ <;> intro _ <;> try (exfalso; omega)))
    | (show andThen _ _ _ _; refine goN ?_)
    | (show inBlock _ _ _ _; refine goB ?_)
    | (show retPost _ _ _ _ _; refine finG ?_))
  refine awp_nils 5 1 (eN .u32) 0 rfl ?_
  refine awp_loop1 (fun (i : Nat) => ([(0, .d (u32s (limbs m))), (1, .d (u32s b')), (5, .d (u32s (limbs (m * val (b'.take i))))), (6, .d (.int .i64 i))], [])) (fun i => i ≤ b'.length) (fun i => b'.length - i) 0 (by simp) ⟨rfl, rfl, by simp [val, limbs_zero]; rfl, rfl, rfl⟩ trivial (fun i hi => ?_)
  have g1 := wb'.getD i
  simp only [B_val] at g1
  have g2 : ln (val (b'.take i)) ≤ b'.length := by
    refine ln_le (Nat.lt_of_lt_of_le (val_lt (wb'.take i)) (Nat.pow_le_pow_right (by decide) ?_))
    simp; omega
  have g3 := mul_len (m := m) (Nat.le_refl _) g2
  have g4 := mul_len (mul_len (m := m) (Nat.le_refl _) (ln_small (by rw [B_val]; exact g1))) (ln_le (n := B ^ i) (k := i + 1) (by rw [Nat.pow_succ]; have := Nat.pow_pos (n := i) (show 0 < B by decide); rw [B_val] at *; omega))
  simp only [ln] at *
  repeat' (first
    | (show awpL _ _ _ _ _; first | refine goL ?_ | refine cl 142 tt rfl rfl rfl (hr := ref01_times _ _ _ (by omega) (by omega) (by omega)) (k := ?_) | refine cl 115 tt rfl rfl rfl (hr := ref01_AddN _ _ (by omega) (by omega)) (k := ?_) | (refine gdLG ?_ ?_ <;> intro _ <;> try (exfalso; omega)))
    | (show awp _ _ _ _; first | refine goA ?_ | (refine cdG ?_ ?_ <;> intro _ <;> try (exfalso; omega)))
    | (show andThen _ _ _ _; refine goN ?_)
    | (show inBlock _ _ _ _; refine goB ?_)
    | (show retPost _ _ _ _ _; refine finG ?_))
  · refine ⟨i + 1, by omega, by omega, ⟨rfl, rfl, ?_, iv (by simp), rfl⟩, trivial⟩
    rw [val_take_succ, Nat.mul_add, Nat.mul_assoc, Nat.mul_comm (b'.getD i 0)]; rfl
  · rw [val_take_all b' (by omega), vb]
theorem ref01_MulN (m n : Nat) (hm : (limbs m).length < 10000000000) (hn : (limbs n).length < 10000000000) : Ret Tryz.prog 104 [u32s (limbs m), u32s (limbs n)] (· = u32s (limbs (m * n))) := by
  have := ref01_Mul (limbs m) (limbs n) hm hn (wf_limbs m) (wf_limbs n)
  rw [nv_limbs, nv_limbs] at this
  exact this

theorem two_limbs (v : Nat) (h : v < 18446744073709551616) : trimL [v % 4294967296, v / 4294967296] = limbs v := by
  rw [trimL_limbs]
  · congr 1; simp only [val, B_val]; omega
  · intro x hx; simp at hx; rw [B_val]; omega
theorem ref01_FromUint (v : Nat) (h : v < 18446744073709551616) : Ret Tryz.prog 116 [.int .u64 v] (· = u32s (limbs v)) := by
  have ht := ref01_trim [v % 4294967296, v / 4294967296] (by simp)
  rw [two_limbs v h] at ht
  refine ret_of_awp tab Tryz.func116 rfl rfl (Nat.le_of_ble_eq_true rfl) (fun w0 F0 => ?_)
  repeat' (first
    | (show awpL _ _ _ _ _; first | refine goL ?_ | refine cl 146 tt rfl rfl rfl (hr := ht) (k := ?_) | (refine gdLG ?_ ?_ <;> intro _ <;> try (exfalso; omega)))
    | (show awp _ _ _ _; first | refine goA ?_ | (refine cdG ?_ ?_ <;> intro _ <;> try (exfalso; omega)))
    | (show andThen _ _ _ _; refine goN ?_)
    | (show inBlock _ _ _ _; refine goB ?_)
    | (show retPost _ _ _ _ _; refine finG ?_))
  rfl
theorem ref01_bit (m i : Nat) (hm : (limbs m).length < 1000000000000) (hi : i < 32 * (limbs m).length) : Ret Tryz.prog 176 [u32s (limbs m), .int .i64 i] (· = .int .u32 (m / 2 ^ i % 2 : Nat)) := by
  have e0 : (((limbs m).getD (i / 32) 0 : Nat) : Int) / 2 ^ ((i : Int) % 32).toNat = (((limbs m).getD (i / 32) 0 / 2 ^ (i % 32) : Nat) : Int) := by
    rw [show ((i : Int) % 32).toNat = i % 32 by omega]; simp
  have e1 : (limbs m).getD (i / 32) 0 / 2 ^ (i % 32) < 4294967296 := Nat.lt_of_le_of_lt (Nat.div_le_self _ _) ((wf_limbs m).getD _)
  refine ret_of_awp tab Tryz.func176 rfl rfl (Nat.le_of_ble_eq_true rfl) (fun w0 F0 => ?_)
  repeat' (first
    | (show awpL _ _ _ _ _; first | refine goL ?_ | (refine gdLG ?_ ?_ <;> intro _ <;> try (exfalso; omega)))
    | (show awp _ _ _ _; first | refine goA ?_ | (refine cdG ?_ ?_ <;> intro _ <;> try (exfalso; omega)))
    | (show andThen _ _ _ _; refine goN ?_)
    | (show inBlock _ _ _ _; refine goB ?_)
    | (show retPost _ _ _ _ _; refine finG ?_))
  rw [e0]
  have e2 := bit_of_limb m i
  generalize (limbs m).getD (i / 32) 0 / 2 ^ (i % 32) = q at *
  repeat' (first
    | (show awpL _ _ _ _ _; first | refine goL ?_ | (refine gdLG ?_ ?_ <;> intro _ <;> try (exfalso; omega)))
    | (show awp _ _ _ _; first | refine goA ?_ | (refine cdG ?_ ?_ <;> intro _ <;> try (exfalso; omega)))
    | (show andThen _ _ _ _; refine goN ?_)
    | (show inBlock _ _ _ _; refine goB ?_)
    | (show retPost _ _ _ _ _; refine finG ?_))
  rw [Int.toNat_natCast, show (1 : Int).toNat = 2 ^ 1 - 1 from rfl, Nat.and_two_pow_sub_one_eq_mod, ← e2]
theorem ref01_double (m o : Nat) (hm : (limbs m).length < 10000000000) (ho : o ≤ 1) : Ret Tryz.prog 175 [u32s (limbs m), .int .u32 o] (· = u32s (limbs (2 * m + o))) := by
  have h1 : (limbs (m * 2 * B ^ 0)).length ≤ (limbs m).length + 1 := by
    have := ln_mul m 2
    have := ln_small (n := 2) (by decide)
    simp only [ln] at *
    simp only [Nat.pow_zero, Nat.mul_one]
    omega
  have a1 := ref01_AddN (m * 2 * B ^ 0) 1 (by omega) (by have := ln_one; simp only [ln] at this; omega)
  rw [show limbs 1 = [1] from limbs_small (by decide) (by decide)] at a1
  refine ret_of_awp tab Tryz.func175 rfl rfl (Nat.le_of_ble_eq_true rfl) (fun w0 F0 => ?_)
  repeat' (first
    | (show awpL _ _ _ _ _; first | refine goL ?_ | refine cl 142 tt rfl rfl rfl (hr := ref01_times _ 2 0 (by omega) (by omega) (by omega)) (k := ?_) | refine cl 115 tt rfl rfl rfl (hr := a1) (k := ?_) | (refine gdLG ?_ ?_ <;> intro _ <;> try (exfalso; omega)))
    | (show awp _ _ _ _; first | refine goA ?_ | (refine cdG ?_ ?_ <;> intro _ <;> try (exfalso; omega)))
    | (show andThen _ _ _ _; refine goN ?_)
    | (show inBlock _ _ _ _; refine goB ?_)
    | (show retPost _ _ _ _ _; refine finG ?_))
  · rw [Nat.pow_zero, Nat.mul_one, Nat.mul_comm m, show o = 1 by omega]
  · rw [Nat.pow_zero, Nat.mul_one, Nat.mul_comm m, show o = 0 by omega, Nat.add_zero]
end Go.Proofs.YtlphlodailailaaGreat

namespace Go.Proofs.YtlphlodailailaaGreat
open Go.Vw
attribute [local irreducible] awp awpL awpR

theorem len_bound {a b : Nat} (h : a ≤ b) {k : Nat} (hb : (limbs b).length < k) : (limbs a).length < k := Nat.lt_of_le_of_lt (limbs_len_mono h) hb
theorem len_double {a b k : Nat} (h : a ≤ 2 * b + 1) (hb : (limbs b).length < k) : (limbs a).length < k + 1 := by
  have h1 := ln_add b (b + 1)
  have h2 := ln_add1 (m := b) (n := b) (Nat.le_refl _) (Nat.le_refl _)
  have h3 := ln_add1 (m := b) (n := b + 1) (k := (limbs b).length + 1)
  have h4 : a < B ^ (ln b + 1) := by
    have := lt_ln b
    rw [Nat.pow_succ]
    have : B ^ ln b * 2 ≤ B ^ ln b * B := Nat.mul_le_mul_left _ (by decide)
    omega
  have := ln_le h4
  simp only [ln] at this
  omega

theorem lv {a b : Nat} (h : a = b) : V.d (u32s (limbs a)) = V.d (u32s (limbs b)) := by rw [h]
theorem ref01_bitI (m j : Nat) (i : Int) (h : i = j) (hm : (limbs m).length < 1000000000000) (hi : j < 32 * (limbs m).length) : Ret Tryz.prog 176 [u32s (limbs m), .int .i64 i] (· = .int .u32 (m / 2 ^ j % 2 : Nat)) := by
  subst h; exact ref01_bit m j hm hi
theorem div_step {x y n o : Nat} (h0 : n ≠ 0) (h : y = 2 * x + o) (ho : o ≤ 1) : (n ≤ 2 * (x % n) + o → 2 * (x % n) + o - n = y % n ∧ 2 * (x / n) + 1 = y / n) ∧ (¬ n ≤ 2 * (x % n) + o → 2 * (x % n) + o = y % n ∧ 2 * (x / n) + 0 = y / n) := by
  have hp := Nat.pos_of_ne_zero h0
  have hx := Nat.div_add_mod x n
  have hr := Nat.mod_lt x hp
  have e : y = n * (2 * (x / n)) + (2 * (x % n) + o) := by
    have : n * (2 * (x / n)) = 2 * (n * (x / n)) := by rw [Nat.mul_left_comm]
    omega
  constructor <;> intro hc
  · have e2 : y = (2 * (x % n) + o - n) + n * (2 * (x / n) + 1) := by rw [Nat.mul_add]; omega
    have l1 : 2 * (x % n) + o - n < n := by omega
    have h1 : y % n = 2 * (x % n) + o - n := by rw [e2, Nat.add_mul_mod_self_left]; exact Nat.mod_eq_of_lt l1
    have h2 : y / n = 2 * (x / n) + 1 := by rw [e2, Nat.add_mul_div_left _ _ hp, Nat.div_eq_of_lt l1, Nat.zero_add]
    exact ⟨h1.symm, h2.symm⟩
  · have e2 : y = (2 * (x % n) + o) + n * (2 * (x / n)) := by omega
    have l1 : 2 * (x % n) + o < n := by omega
    have h1 : y % n = 2 * (x % n) + o := by rw [e2, Nat.add_mul_mod_self_left]; exact Nat.mod_eq_of_lt l1
    have h2 : y / n = 2 * (x / n) := by rw [e2, Nat.add_mul_div_left _ _ hp, Nat.div_eq_of_lt l1, Nat.zero_add]
    exact ⟨h1.symm, h2.symm⟩
theorem ref01_DivN (m n : Nat) (hm : (limbs m).length < 1000000000) (hn : (limbs n).length < 1000000000) (h0 : n ≠ 0) : Ret Tryz.prog 161 [u32s (limbs m), u32s (limbs n)] (· = .tup [u32s (limbs (m / n)), u32s (limbs (m % n)), .bool true]) := by
  have hl : 0 < (limbs n).length := List.length_pos_iff.2 (mt limbs_eq_nil.1 h0)
  have hz := div_bits_zero m
  simp only [ln] at hz
  refine ret_of_awp tab Tryz.func161 rfl rfl (Nat.le_of_ble_eq_true rfl) (fun w0 F0 => ?_)
  repeat' (first
    | (show awpL _ _ _ _ _; first | refine goL ?_ | refine cl 130 tt rfl rfl rfl (hr := ref01_TakeN _ (by omega)) (k := ?_) | (refine gdLG ?_ ?_ <;> intro _ <;> try (exfalso; omega)))
    | (show awp _ _ _ _; first | refine goA ?_ | (refine cdG ?_ ?_ <;> intro _ <;> try (exfalso; omega)))
    | (show andThen _ _ _ _; refine goN ?_)
    | (show inBlock _ _ _ _; refine goB ?_)
    | (show retPost _ _ _ _ _; refine finG ?_))
  refine awp_nils 7 1 (eN .u32) 0 rfl ?_
  refine awp_nils 8 1 (eN .u32) 0 rfl ?_
  refine awp_loop1 (fun (k : Nat) => ([(0, .d (u32s (limbs m))), (1, .d (u32s (limbs n))), (7, .d (u32s (limbs (m / 2 ^ k / n)))), (8, .d (u32s (limbs (m / 2 ^ k % n)))), (9, .d (.int .i64 ((k : Int) - 1)))], [])) (fun k => k ≤ 32 * (limbs m).length) (fun k => k) (32 * (limbs m).length) (Nat.le_refl _) ⟨rfl, rfl, by rw [hz, Nat.zero_div, limbs_zero]; rfl, by rw [hz, Nat.zero_mod, limbs_zero]; rfl, iv (by simp), rfl⟩ trivial (fun k hi => ?_)
  have e1 : ((k : Int) - 1) = ((k - 1 : Nat) : Int) ∨ k = 0 := by omega
  have e2 := div_pow_step m k
  have hq : m / 2 ^ k ≤ m := Nat.div_le_self _ _
  have hq' : m / 2 ^ k / n ≤ m := Nat.le_trans (Nat.div_le_self _ _) hq
  have hr := Nat.mod_lt (m / 2 ^ k) (Nat.pos_of_ne_zero h0)
  have b1 := len_bound hq' hm
  have b2 := len_bound (Nat.le_of_lt hr) hn
  have b3 := len_double (a := 2 * (m / 2 ^ k % n) + m / 2 ^ (k - 1) % 2) (b := m / 2 ^ k % n) (by omega) b2
  have e3 : 0 < k → _ := fun hk => div_step (x := m / 2 ^ k) (y := m / 2 ^ (k - 1)) (o := m / 2 ^ (k - 1) % 2) h0 (e2 hk) (by omega)
  repeat' (first
    | (show awpL _ _ _ _ _; first | refine goL ?_ | refine cl 176 tt rfl rfl rfl (hr := ref01_bitI _ (k - 1) _ (by omega) (by omega) (by omega)) (k := ?_) | refine cl 175 tt rfl rfl rfl (hr := ref01_double _ _ (by omega) (by omega)) (k := ?_) | refine cl 175 tt rfl rfl rfl (hr := ref01_double _ 1 (by omega) (by omega)) (k := ?_) | refine cl 175 tt rfl rfl rfl (hr := ref01_double _ 0 (by omega) (by omega)) (k := ?_) | refine cl 135 tt rfl rfl rfl (hr := ref01_SubN _ _ (by omega) (by omega)) (k := ?_) | (refine gdLG ?_ ?_ <;> intro _ <;> try (exfalso; omega)))
    | (show awp _ _ _ _; first | refine goA ?_ | (refine cdG ?_ ?_ <;> intro _ <;> try (exfalso; omega)))
    | (show andThen _ _ _ _; refine goN ?_)
    | (show inBlock _ _ _ _; refine goB ?_)
    | (show retPost _ _ _ _ _; refine finTG ?_))
  · rename_i hk hc
    obtain ⟨g1, g2⟩ := (e3 (by omega)).1 hc
    exact ⟨k - 1, by omega, by omega, ⟨rfl, rfl, lv g2, lv g1, iv (by omega), rfl⟩, trivial⟩
  · rename_i hk hc
    obtain ⟨g1, g2⟩ := (e3 (by omega)).2 hc
    exact ⟨k - 1, by omega, by omega, ⟨rfl, rfl, lv g2, lv g1, iv (by omega), rfl⟩, trivial⟩
  · have : k = 0 := by omega
    subst this
    rw [Nat.pow_zero, Nat.div_one]; exact leT

theorem ref01_Gcd (a b : List Nat) (hla : a.length < 100000000) (hlb : b.length < 100000000) (wa : WF a) (wb : WF b) : Ret Tryz.prog 160 [u32s a, u32s b] (· = u32s (limbs (Nat.gcd (nv a) (nv b)))) := by
  have la := length_limbs_nv wa
  have lb := length_limbs_nv wb
  have ta := ref01_TakeV a wa (by omega)
  have tb := ref01_TakeV b wb (by omega)
  generalize nv a = m at *
  generalize nv b = n at *
  refine ret_of_awp tab Tryz.func160 rfl rfl (Nat.le_of_ble_eq_true rfl) (fun w0 F0 => ?_)
  repeat' (first
    | (show awpL _ _ _ _ _; first | refine goL ?_ | refine cl 130 tt rfl rfl rfl (hr := ta) (k := ?_) | refine cl 130 tt rfl rfl rfl (hr := tb) (k := ?_) | (refine gdLG ?_ ?_ <;> intro _ <;> try (exfalso; omega)))
    | (show awp _ _ _ _; first | refine goA ?_ | (refine cdG ?_ ?_ <;> intro _ <;> try (exfalso; omega)))
    | (show andThen _ _ _ _; refine goN ?_)
    | (show inBlock _ _ _ _; refine goB ?_)
    | (show retPost _ _ _ _ _; refine finG ?_))
  refine awp_loop2 (fun (x y : Nat) => ([(0, .d (u32s (limbs x))), (1, .d (u32s (limbs y)))], [])) (fun x y => (limbs x).length < 1000000000 ∧ (limbs y).length < 1000000000 ∧ Nat.gcd x y = Nat.gcd m n) (fun x y => y) m n ⟨by omega, by omega, rfl⟩ ⟨rfl, rfl, rfl⟩ trivial (fun x y hi => ?_)
  obtain ⟨h1, h2, h3⟩ := hi
  by_cases h0 : y = 0
  · subst h0
    have e : (limbs 0).length = 0 := by rw [limbs_zero]; rfl
    repeat' (first
      | (show awpL _ _ _ _ _; first | refine goL ?_ | (refine gdLG ?_ ?_ <;> intro _ <;> try (exfalso; omega)))
      | (show awp _ _ _ _; first | refine goA ?_ | (refine cdG ?_ ?_ <;> intro _ <;> try (exfalso; omega)))
      | (show andThen _ _ _ _; refine goN ?_)
      | (show inBlock _ _ _ _; refine goB ?_)
      | (show retPost _ _ _ _ _; refine finG ?_))
    rw [← h3, Nat.gcd_zero_right]
  · have e : 0 < (limbs y).length := List.length_pos_iff.2 (mt limbs_eq_nil.1 h0)
    repeat' (first
      | (show awpL _ _ _ _ _; first | refine goL ?_ | refine cl 161 tt rfl rfl rfl (hr := ref01_DivN _ _ (by omega) (by omega) h0) (k := ?_) | (refine gdLG ?_ ?_ <;> intro _ <;> try (exfalso; omega)))
      | (show awp _ _ _ _; first | refine goA ?_ | (refine cdG ?_ ?_ <;> intro _ <;> try (exfalso; omega)))
      | (show andThen _ _ _ _; refine goN ?_)
      | (show inBlock _ _ _ _; refine goB ?_)
      | (show retPost _ _ _ _ _; refine finG ?_))
    have hr := Nat.mod_lt x (Nat.pos_of_ne_zero h0)
    exact ⟨y, x % y, ⟨h2, len_bound (Nat.le_of_lt hr) h2, by rw [← h3, Nat.gcd_comm y, ← Nat.gcd_rec, Nat.gcd_comm]⟩, hr, ⟨rfl, rfl, rfl⟩, trivial⟩
theorem ref01_GcdN (m n : Nat) (hm : (limbs m).length < 100000000) (hn : (limbs n).length < 100000000) : Ret Tryz.prog 160 [u32s (limbs m), u32s (limbs n)] (· = u32s (limbs (Nat.gcd m n))) := by
  have := ref01_Gcd (limbs m) (limbs n) hm hn (wf_limbs m) (wf_limbs n)
  rw [nv_limbs, nv_limbs] at this
  exact this

theorem take_succ_eq {a b : List Nat} {i : Nat} (h : a.take i = b.take i) (h1 : i < a.length) (h2 : i < b.length) (e : a.getD i 0 = b.getD i 0) : a.take (i + 1) = b.take (i + 1) := by
  rw [List.take_add_one, List.take_add_one, h]
  simp [List.getD, h1, h2] at e
  simp [h1, h2, e]
theorem ref01_Same (a b : List Nat) (hla : a.length < 10000000000000) (hlb : b.length < 10000000000000) : Ret Tryz.prog 77 [u32s a, u32s b] (· = .bool (decide (a = b))) := by
  refine ret_of_awp tab Tryz.func77 rfl rfl (Nat.le_of_ble_eq_true rfl) (fun w0 F0 => ?_)
  repeat' (first
    | (show awpL _ _ _ _ _; first | refine goL ?_ | (refine gdLG ?_ ?_ <;> intro _ <;> try (exfalso; omega)))
    | (show awp _ _ _ _; first | refine goA ?_ | refine rg 6 8 ?_ | (refine cdG ?_ ?_ <;> intro _ <;> try (exfalso; omega)))
    | (show andThen _ _ _ _; refine goN ?_)
    | (show inBlock _ _ _ _; refine goB ?_)
    | (show awpR _ _ _ _ _ _ _; first | refine goR ?_ | (refine gdRG ?_ ?_ <;> intro _ <;> try (exfalso; omega)))
    | (show retPost _ _ _ _ _; refine finG ?_))
  · rename_i h
    rw [decide_eq_false (fun e => h (by rw [e]))]
  rename_i h
  refine awp_loop1 (fun (i : Nat) => ([(0, .d (u32s a)), (1, .d (u32s b)), (5, .d (.int .i64 i))], [])) (fun i => i ≤ a.length ∧ a.take i = b.take i) (fun i => a.length - i) 0 ⟨by simp, by simp⟩ ⟨rfl, rfl, rfl, rfl⟩ trivial (fun i hi => ?_)
  obtain ⟨h1, h2⟩ := hi
  repeat' (first
    | (show awpL _ _ _ _ _; first | refine goL ?_ | (refine gdLG ?_ ?_ <;> intro _ <;> try (exfalso; omega)))
    | (show awp _ _ _ _; first | refine goA ?_ | refine rg 6 8 ?_ | (refine cdG ?_ ?_ <;> intro _ <;> try (exfalso; omega)))
    | (show andThen _ _ _ _; refine goN ?_)
    | (show inBlock _ _ _ _; refine goB ?_)
    | (show awpR _ _ _ _ _ _ _; first | refine goR ?_ | (refine gdRG ?_ ?_ <;> intro _ <;> try (exfalso; omega)))
    | (show retPost _ _ _ _ _; refine finG ?_))
  · rename_i h3 h4
    rw [decide_eq_false (fun e => h4 (by rw [e]))]
  · rename_i h3 h4
    exact ⟨i + 1, ⟨by omega, take_succ_eq h2 (by omega) (by omega) (by omega)⟩, by omega, ⟨rfl, rfl, iv (by omega), rfl⟩, trivial⟩
  · rw [List.take_of_length_le (by omega), List.take_of_length_le (by omega)] at h2
    rw [decide_eq_true h2]
end Go.Proofs.YtlphlodailailaaGreat
