/-
  Contracts of functions of the program, and the layer that they are walked with: VO Tab FmA FmB FmC FmD FmE FmP. Conditions: as each says.
-/
import Derived.KernelRfl
import Derived.Test.YtfnonogemgnlhaaDoorProg
import Derived.Test.YtfnonogemgnlhaaDoorA03
/-
  The rules of the walk, their side conditions paid by themselves. Conditions: as each says.
-/
set_option linter.unusedSimpArgs false
set_option linter.unusedVariables false
set_option linter.unusedSectionVars false
namespace Go.Vw
open Go.RowKit

def forceV (C : Prop) : V → Ev V
  | .d y => some (C, .d y)
  | .own k o n ty sz => some (C, .own k o n ty sz)
  | .ptr k o => some (C, .ptr k o)
  | .eptr k sz i f => some (C, .eptr k sz i f)
  | .agg cs => some (C, .agg cs)
  | .tup cs => some (C, .tup cs)
  | .fn f cs => some (C, .fn f cs)
theorem forceV_eq (C : Prop) (x : V) : forceV C x = some (C, x) := by cases x <;> rfl
def evalF (T : TypeId → Option TyD) (m : Bool) (s : St) (op : Op) : Ev V :=
  match evalQ T m s op with
  | some (C, x) => forceV C x
  | none => none
theorem evalF_eq (T : TypeId → Option TyD) (m : Bool) (s : St) (op : Op) : evalF T m s op = evalQ T m s op := by
  unfold evalF
  split
  · rename_i C x h; rw [forceV_eq, h]
  · rename_i h; rw [h]

theorem le2 {α β : Type} {e : α × β → List D} {cs : List D} {a : α} {b : β} (h : LeL cs (e (a, b))) : LeL cs (e (a, b)) := h
theorem le3 {α β γ : Type} {e : α × β × γ → List D} {cs : List D} {a : α} {b : β} {c : γ} (h : LeL cs (e (a, b, c))) : LeL cs (e (a, b, c)) := h

@[reducible] def eI (k : IntKind) (x : Int) : List D := [.int k x]
@[reducible] def eN (k : IntKind) (x : Nat) : List D := [.int k (x : Int)]
@[reducible] def u32s (l : List Nat) : D := .sl 1 (eN .u32) 0 l
@[reducible] def i64s (l : List Int) : D := .sl 1 (eI .i64) 0 l
theorem leN {k : IntKind} {x : Int} (h : 0 ≤ x) : LeL [.int k x] (eN k x.toNat) := by
  rw [eN, Int.toNat_of_nonneg h]; exact LeL.refl _
theorem boolFits_of {dd : TyD} {b : Bool} (h : TypeDesc.isBool dd.desc = true) : boolFits dd (.bool b) := h
theorem iv {k : IntKind} {a b : Int} (h : a = b) : V.d (.int k a) = V.d (.int k b) := by rw [h]
theorem i64max : IntKind.i64.max = 9223372036854775807 := rfl
theorem sc {C : Prop} (h : C := by first | ((repeat' (first | exact trivial | apply And.intro | omega | exact Go.Vw.boolFits_of rfl | decide | with_reducible rfl | with_reducible assumption | (with_reducible show (_ : Nat) = _; exact rfl) | (simp only [IntKind.bits, Go.Vw.i64max, Go.Vw.plus0_eq, List.length_append, List.length_cons, List.length_nil, List.length_set, List.length_replicate, List.length_take, List.length_drop, List.length_map, List.length_range] <;> omega))); done) | fail) : C := h
theorem LeD.eqi {k : IntKind} {x y : Int} (h : x = y) : LeD (.int k x) (.int k y) := by subst h; exact LeD.refl _
theorem leEq {k : IntKind} {x : Int} {n : Nat} (h : x = (n : Int)) : LeL [.int k x] (eN k n) := by subst h; exact LeL.refl _
theorem leEqI {k : IntKind} {x y : Int} (h : x = y) : LeL [.int k x] (eI k y) := by subst h; exact LeL.refl _
theorem LeD.full {sz : Nat} {α : Type} {e : α → List D} {z : α} {l : List α} : LeD (.sl sz e z (cut 0 l.length l)) (.sl sz e z l) := by
  rw [cut_all]; exact LeD.refl _
theorem LeD.tk0 {sz n : Nat} {α : Type} {e : α → List D} {z : α} {l : List α} : LeD (.sl sz e z (cut 0 n l)) (.sl sz e z (l.take n)) := by
  rw [cut_zero]; exact LeD.refl _
theorem leB {x : Int} (h : 0 ≤ x ∧ x < 256) : LeL [.int .u8 x] (eB (UInt8.ofNat x.toNat)) := by
  have : ((UInt8.ofNat x.toNat).toNat : Int) = x := by
    rw [UInt8.toNat_ofNat']
    have : x.toNat % 2 ^ 8 = x.toNat := Nat.mod_eq_of_lt (by omega)
    rw [this]; omega
  rw [eB, this]; exact LeL.refl _
theorem LeD.cutAll {sz n : Nat} {α : Type} {e : α → List D} {z : α} {l : List α} (h : n = l.length) : LeD (.sl sz e z (cut 0 n l)) (.sl sz e z l) := by
  subst h; exact LeD.full
theorem leL {xs ys : List D} (h : LeL xs ys := by
  first
  | with_reducible exact Go.Vw.LeL.refl _
  | exact Go.Vw.leB (by omega)
  | exact Go.Vw.leN (by omega)
  | exact Go.Vw.LeL.refl _
  | exact Go.Vw.leEq (by omega)
  | exact Go.Vw.leEqI (by omega)
  | ((repeat' (first | exact Go.Vw.LeD.refl _ | exact Go.Vw.LeL.nil | apply Go.Vw.LeL.cons | exact Go.Vw.LeD.nils | apply Go.Vw.LeD.agg | exact Go.Vw.LeD.lit rfl Go.Vw.LeR.nil | (refine Go.Vw.LeD.lit rfl (Go.Vw.LeR.cons rfl ?_ ?_)) | exact Go.Vw.LeL.refl _ | exact Go.Vw.LeR.nil | (refine Go.Vw.LeR.cons rfl ?_ ?_))); done)
  | (refine Go.Vw.le3 ?_; (repeat' (first | exact Go.Vw.LeD.refl _ | exact Go.Vw.LeL.nil | apply Go.Vw.LeL.cons | exact Go.Vw.LeD.nils | apply Go.Vw.LeD.agg)); done)
  | (refine Go.Vw.le2 ?_; (repeat' (first | exact Go.Vw.LeD.refl _ | exact Go.Vw.LeL.nil | apply Go.Vw.LeL.cons | exact Go.Vw.LeD.nils | apply Go.Vw.LeD.agg)); done)
  | fail) : LeL xs ys := h
theorem leT {xs ys : List D} (h : LeT xs ys := by
  first
  | ((repeat' (first | exact Go.Vw.LeD.full | exact Go.Vw.LeD.tk0 | exact Go.Vw.LeD.cutAll Go.Vw.sc | exact Go.Vw.LeD.refl _ | exact Go.Vw.LeT.nil | exact Go.Vw.LeD.eqi (by omega) | apply Go.Vw.LeT.cons | exact Go.Vw.LeD.nils | (refine Go.Vw.LeD.agg ?_; exact Go.Vw.leL) | (refine Go.Vw.LeD.lit rfl ?_; repeat' (first | exact Go.Vw.LeR.nil | refine Go.Vw.LeR.cons rfl Go.Vw.leL ?_)) | (refine Go.Vw.LeD.fn ?_; exact Go.Vw.leL) | (refine Go.Vw.LeD.ptr ?_ _; exact Go.Vw.leL))); done)
  | fail) : LeT xs ys := h
theorem src_lit {X : Ctx} {s : St} {sz n : Nat} {α : Type} {e : α → List D} {rows : List (List D)} {a : α} {l : List α} (hn : rows.length = n) (h : LeR sz rows e (a :: l)) : SrcOk X s (.d (.sl sz (nth [] rows) 0 (iota n 0))) sz e (a :: l) := src_data (z := a) (LeD.lit hn h)
theorem srcOk {X : Ctx} {s : St} {y : V} {sz : Nat} {α : Type} {e : α → List D} {l : List α} (h : SrcOk X s y sz e l := by
  first
  | exact Go.Vw.src_data (Go.Vw.LeD.refl _)
  | exact Go.Vw.src_lit rfl (Go.Vw.LeR.cons rfl Go.Vw.leL Go.Vw.LeR.nil)
  | exact Go.Vw.src_lit rfl (Go.Vw.LeR.cons rfl Go.Vw.leL (Go.Vw.LeR.cons rfl Go.Vw.leL Go.Vw.LeR.nil))
  | exact Go.Vw.src_data Go.Vw.LeD.nils
  | exact Go.Vw.src_all rfl rfl
  | exact Go.Vw.src_own rfl
  | fail) : SrcOk X s y sz e l := h

theorem tt : true = true := rfl
theorem ff : false = false := rfl
theorem stt : some true = some true := rfl
theorem sff : some false = some false := rfl
def opK : Op → Nat
  | .store .. => 1
  | .alloc _ => 2
  | .box _ _ => 2
  | .call ⟨.builtin .append, _, _⟩ => 3
  | .call ⟨.builtin _, _, _⟩ => 0
  | .call _ => 6
  | .makeSlice .. => 4
  | .buildSlice .. => 5
  | _ => 0
section
variable {X : Ctx} {all : Array Oper} {s : St} {o : Oper}
theorem m_q (m : Bool) (hg : gd all s o = some true) {C : Prop} {x : V} (hq : evalF X.T m s o.op = some (C, x)) (hC : C) : M1 X all s o x := m_quiet X.ok m hg (by rw [evalF_eq] at hq; exact hq) hC
variable {Q : Exit → St → Prop} {rest : List Oper}
theorem stepM {x : V} {d : Tmp} (hdst : o.dst = some d) (hd : dstOk X.N (some d) = true) (h : M1 X all s o x) (k : awpL X all rest Q (s.put (some d) x)) : awpL X all (o :: rest) Q s := by
  rw [← hdst] at hd k; exact awpL_step (h.e1 hd) k
theorem stepQ {d : Tmp} {C : Prop} {x : V} (m : Bool) (hk : Nat.beq (opK o.op) 0 = true) (hg : gd all s o = some true) (hdst : o.dst = some d) (hd : dstOk X.N (some d) = true) (hq : evalF X.T m s o.op = some (C, x)) (hC : C) (k : awpL X all rest Q (s.put (some d) x)) : awpL X all (o :: rest) Q s := stepM hdst hd (m_q m hg hq hC) k
theorem stepOff {d : Tmp} (hg : gd all s o = some false) (hdst : o.dst = some d) (hd : dstOk X.N (some d) = true) (k : awpL X all rest Q (s.put (some d) (.d (.tup [])))) : awpL X all (o :: rest) Q s := stepM hdst hd (m_off hg) k
theorem stepM0 {x : V} (hk : Nat.beq (opK o.op) 0 = true) (hdst : o.dst = none) (h : M1 X all s o x) (k : awpL X all rest Q s) : awpL X all (o :: rest) Q s := by
  refine awpL_step (h.e1 (by rw [hdst]; rfl)) ?_; rw [hdst]; exact k
theorem stepE1 {s' : St} {x : V} {d : Tmp} (hkk : Nat.beq (opK o.op) 2 = true) (hdst : o.dst = some d) (hg : gd all s o = some true) (hd : dstOk X.N (some d) = true) (hK : X.K.contains d = false) (h : evalE X.T s (some d) o.op = some (some x, s')) (k : awpL X all rest Q (s'.put (some d) x)) : awpL X all (o :: rest) Q s := by
  obtain ⟨dst, op, ty, pos, after, g⟩ := o
  cases hdst
  exact awpL_step (e_eff X.ok hg hd (fun d' e => by cases e; exact hK) h) k
theorem stepE0 {s' : St} (hkk : Nat.beq (opK o.op) 1 = true) (hdst : o.dst = none) (hg : gd all s o = some true) (h : evalE X.T s none o.op = some (none, s')) (k : awpL X all rest Q s') : awpL X all (o :: rest) Q s := by
  obtain ⟨dst, op, ty, pos, after, g⟩ := o
  cases hdst
  exact awpL_step (e_eff X.ok hg rfl (fun d' e => by cases e) h) k
end

def SrcZ (X : Ctx) (s : St) (y : V) (sz : Nat) {α : Type} (e : α → List D) (z : α) (l : List α) : Prop := SrcOk X s y sz e l
theorem srcz_sl {X : Ctx} {s : St} {y : D} {sz : Nat} {α : Type} {e : α → List D} {z : α} {l : List α} (h : y = .sl sz e z l) : SrcZ X s (.d y) sz e z l := by
  subst h; exact src_data (LeD.refl _)
theorem srcz_lit {X : Ctx} {s : St} {y : D} {sz : Nat} {α : Type} [Inhabited α] {e : α → List D} {l : List α} (h : SrcOk X s (.d y) sz e l) : SrcZ X s (.d y) sz e default l := h
theorem srcz_all {X : Ctx} {s : St} {k n : Nat} {ty ty' : TypeId} {sz : Nat} {α : Type} {e : α → List D} {z : α} {l : List α} (hk : s.blk k = some (.data ty' sz e z l)) (hn : n = l.length) : SrcZ X s (.own k 0 n ty sz) sz e z l := src_all hk hn
theorem srcz_own {X : Ctx} {s : St} {k o n : Nat} {ty ty' : TypeId} {sz : Nat} {α : Type} {e : α → List D} {z : α} {l : List α} (hk : s.blk k = some (.data ty' sz e z l)) : SrcZ X s (.own k o n ty sz) sz e z (cut o n l) := src_own hk
theorem srcZ {X : Ctx} {s : St} {y : V} {sz : Nat} {α : Type} {e : α → List D} {z : α} {l : List α} (h : SrcZ X s y sz e z l := by
  first
  | exact Go.Vw.srcz_sl rfl
  | exact Go.Vw.srcz_lit (Go.Vw.src_lit rfl (Go.Vw.LeR.cons rfl Go.Vw.leL Go.Vw.LeR.nil))
  | exact Go.Vw.srcz_lit (Go.Vw.src_lit rfl (Go.Vw.LeR.cons rfl Go.Vw.leL (Go.Vw.LeR.cons rfl Go.Vw.leL Go.Vw.LeR.nil)))
  | exact Go.Vw.srcz_all rfl rfl
  | exact Go.Vw.srcz_own rfl
  | fail) : SrcZ X s y sz e z l := h
theorem SR.rebox {X : Ctx} {io : Nat → Option Nat} {F : Nat → Prop} {s : St} {a : Act} {w : World} (hs : SR X io F s a w) {k : Nat} {ty : TypeId} {cs : List V} {ds ds' : List D} (hk : s.blk k = some (.box ty cs)) (hd : allD cs = some ds) (le : LeL ds ds') : SR X io F (s.withBlk k (.box ty (ds'.map V.d))) a w := by
  have hbr := hs.bl k _ hk
  simp only [BR] at hbr
  obtain ⟨b, arr, h1, h2, h3, h4, h5⟩ := hbr
  refine hs.setBlk (by rw [ln_of hk]; simp [Blk.ln]) ?_ fun j c hj hb e1 e2 => hj (hs.inj j k c hb (by rw [hk]; simp) e1 e2)
  simp only [BR]
  refine ⟨b, arr, h1, h2, h3, h4, DRA.toV (le.2 F w _ _ (VRA.ofD hd h5))⟩
theorem awp_rebox {X : Ctx} {c : Code} {Q : Exit → St → Prop} {s : St} (k : Nat) (ds' : List D) {ty : TypeId} {cs : List V} {ds : List D} (hk : s.blk k = some (.box ty cs)) (hd : allD cs = some ds) (le : LeL ds ds') (h : awp X c Q (s.withBlk k (.box ty (ds'.map V.d)))) : awp X c Q s := fun io F a w hs => h io F a w (SR.rebox hs hk hd le)
section
variable {X : Ctx} {all : Array Oper} {s : St} {o : Oper} {Q : Exit → St → Prop} {rest : List Oper} {d : Tmp} {α : Type} {en : α → List D} {z : α} {l : List α} {td ed : TyD}
theorem stepStore {t ety : TypeId} {addr x : Operand} {k sz i f : Nat} {y : D} {cs : List D} {a' : α} (hkk : Nat.beq (opK o.op) 1 = true) (hop : o.op = .store t addr x) (hdst : o.dst = none) (hg : gd all s o = some true) (ht : X.T t = some td) (ha : s.opd addr = .eptr k sz i f) (hk : s.blk k = some (.data ety sz en z l)) (hx : s.opd x = .d y) (hst : ((V.d y).storable && Nat.beq y.cells.length td.size) = true) (hp : putL (en (l.getD i z)) f y.cells = some cs) (hle : LeL cs (en a')) (hi : i < l.length) (r : awpL X all rest Q (s.withBlk k (.data ety sz en z (l.set i a')))) : awpL X all (o :: rest) Q s := by
  obtain ⟨dst, op, ty, pos, after, g⟩ := o
  cases hop; cases hdst
  exact awpL_step (e_store X.ok hg ht ha hk hx hst hp hle hi) r
theorem stepStoreV {t ety : TypeId} {addr x : Operand} {k i k2 o2 n2 : Nat} {ty2 : TypeId} {sz2 : Nat} (hkk : Nat.beq (opK o.op) 1 = true) (hop : o.op = .store t addr x) (hdst : o.dst = none) (hg : gd all s o = some true) (hx : s.opd x = .own k2 o2 n2 ty2 sz2) (ht : X.T t = some td) (ha : s.opd addr = .eptr k 1 i 0) (hk : s.blk k = some (.data ety 1 en z l)) (hsz : Nat.beq td.size 1 = true) (hi : i < l.length) (r : awpL X all rest Q (s.withBlk k (.hole ety 1 en z l i (.own k2 o2 n2 ty2 sz2)))) : awpL X all (o :: rest) Q s := by
  obtain ⟨dst, op, ty, pos, after, g⟩ := o
  cases hop; cases hdst
  exact awpL_step (e_storeV X.ok hg ht ha hk hx hsz hi) r
theorem stepApp {t : TypeId} {c : Call} {x y : Operand} {e : TypeId} {k n : Nat} {l2 : List α} (hkk : Nat.beq (opK o.op) 3 = true) (hop : o.op = .call c) (hc : c = ⟨.builtin .append, #[x, y], #[t, t]⟩) (hdst : o.dst = some d) (hg : gd all s o = some true) (hd : dstOk X.N (some d) = true) (ht : X.T t = some td) (hds : td.desc = .slice e) (he : X.T e = some ed) (hx : s.opd x = .own k 0 n e ed.size) (hK : X.K.contains k = false) (hk : s.blk k = some (.data e ed.size en z l)) (hz : zeroOk ed = true) (hn : n = l.length) (hy : SrcOk X s (s.opd y) ed.size en l2) (hb : l.length + l2.length ≤ 9223372036854775807 ∧ (l.length + l2.length) * ed.bytes ≤ 140737488355328) (r : awpL X all rest Q ((s.new k (.data e ed.size en z (l ++ l2))).put (some d) (.own k 0 (l ++ l2).length e ed.size))) : awpL X all (o :: rest) Q s := by
  obtain ⟨dst, op, ty, pos, after, g⟩ := o
  cases hop; cases hdst; subst hc
  exact awpL_step (e_append X.ok hg hd ht hds he hK hx hk hn hy hz hb) r
theorem stepAppNil {t : TypeId} {c : Call} {x y : Operand} {e : TypeId} {l2 : List α} (hkk : Nat.beq (opK o.op) 3 = true) (hop : o.op = .call c) (hc : c = ⟨.builtin .append, #[x, y], #[t, t]⟩) (hdst : o.dst = some d) (hg : gd all s o = some true) (hd : dstOk X.N (some d) = true) (ht : X.T t = some td) (hds : td.desc = .slice e) (he : X.T e = some ed) (hx : s.opd x = .d .nils) (hK : X.K.contains d = false) (hz : zeroOk ed = true) (hy : SrcZ X s (s.opd y) ed.size en z l2) (hb : l2.length ≤ 9223372036854775807 ∧ l2.length * ed.bytes ≤ 140737488355328) (r : awpL X all rest Q (((s.new d (.data e ed.size en z [])).new d (.data e ed.size en z l2)).put (some d) (.own d 0 l2.length e ed.size))) : awpL X all (o :: rest) Q s := by
  obtain ⟨dst, op, ty, pos, after, g⟩ := o
  cases hop; cases hdst; subst hc
  exact awpL_step (e_appnil X.ok hg hd ht hds he hK hx hy hz hb) r
theorem stepMake {mm : Bool} {t e : TypeId} {lo co : Operand} {n m : Int} {C : Prop} {j : Nat} (hkk : Nat.beq (opK o.op) 4 = true) (hop : o.op = .makeSlice t lo co) (hdst : o.dst = some d) (hg : gd all s o = some true) (hd : dstOk X.N (some d) = true) (hK : X.K.contains d = false) (ht : X.T t = some td) (hds : td.desc = .slice e) (he : X.T e = some ed) (hl : intOfV (s.opd lo) = some n) (hc : intOfV (s.opd co) = some m) (hn : natOf mm n = some (C, ⟨j⟩)) (hz : zeroOk ed = true) (le : LeL (D.ofV ed.zero).cells (en z)) (hC : C) (hb : n ≤ m ∧ m * ed.bytes ≤ 140737488355328 ∧ m ≤ 9223372036854775807) (r : awpL X all rest Q ((s.new d (.data e ed.size en z (List.replicate j z))).put (some d) (.own d 0 j e ed.size))) : awpL X all (o :: rest) Q s := by
  obtain ⟨dst, op, ty, pos, after, g⟩ := o
  cases hop; cases hdst
  exact awpL_step (e_make X.ok hg hd hK ht hds he hl hc hn hz le hC hb) r
theorem stepLit {e : TypeId} {sz len : Nat} {rows : List (List D)} (hkk : Nat.beq (opK o.op) 5 = true) (h : evalB X.T s o.op = some (e, sz, len, rows)) (hdst : o.dst = some d) (hg : gd all s o = some true) (hd : dstOk X.N (some d) = true) (k : awpL X all rest Q (s.put (some d) (.d (.sl sz (nth [] rows) 0 (iota len 0))))) : awpL X all (o :: rest) Q s := stepM hdst hd (m_lit X.ok hg h) k
end

def litApp (d : Tmp) : List Oper → Bool
  | [] => false
  | o :: r => match o.op with
    | .call ⟨.builtin .append, args, _⟩ => (match args.toList with | .tmp t :: _ => Nat.beq t d | _ => false) || litApp d r
    | _ => litApp d r
section
variable {X : Ctx} {all : Array Oper} {s : St} {o : Oper} {Q : Exit → St → Prop} {pre rest : List Oper} {d : Tmp} {α : Type} {en : α → List D} {z : α} {l l2 : List α} {td ed : TyD} {d1 d2 : D}
theorem stepLitF {e : TypeId} {sz len : Nat} {rows : List (List D)} (hkk : Nat.beq (opK o.op) 5 = true) (hdst : o.dst = some d) (hla : litApp d rest = true) (h : evalB X.T s o.op = some (e, sz, len, rows)) (hg : gd all s o = some true) (hd : dstOk X.N (some d) = true) (k : awpL X all rest Q (s.put (some d) (.d (.full (.sl sz (nth [] rows) 0 (iota len 0)))))) : awpL X all (o :: rest) Q s := stepM hdst hd (m_litF X.ok hg h) k
theorem m_appF' {t : TypeId} {c : Call} {x y : Operand} {e : TypeId} (hop : o.op = .call c) (hc : c = ⟨.builtin .append, #[x, y], #[t, t]⟩) (hg : gd all s o = some true) (ht : X.T t = some td) (hds : td.desc = .slice e) (he : X.T e = some ed) (hx : s.opd x = .d (.full d1)) (hz : zeroOk ed = true) (hy : s.opd y = .d d2) (le2 : LeD d2 (.sl ed.size en z l2)) (le1 : LeD d1 (.sl ed.size en z l)) (hb : l.length + l2.length ≤ 9223372036854775807 ∧ (l.length + l2.length) * ed.bytes ≤ 140737488355328) : M1 X all s o (.d (.sl ed.size en z (l ++ l2))) := by
  subst hc; exact m_appF X.ok hop hg ht hds he hx le1 hy le2 hz hb
theorem stepB2S {src dst e : TypeId} {y : Operand} {sd dd : TyD} {l : List UInt8} (hop : o.op = .convert src dst y) (hdst : o.dst = some d) (hs : X.T src = some sd) (hsd : sd.desc = .slice e) (hdt : X.T dst = some dd) (hdd : dd.desc = .string) (he : X.T e = some ed) (hed : ed.desc = .int .u8) (hg : gd all s o = some true) (hd : dstOk X.N (some d) = true) (hy : s.opd y = .d d1) (le : LeD d1 (.sl 1 eB 0 l)) (k : awpL X all rest Q (s.put (some d) (.d (.str l)))) : awpL X all (o :: rest) Q s := stepM hdst hd (m_b2s X.ok hop hg hs hsd he hed hdt hdd hy le) k
theorem stepB2SO {src dst e : TypeId} {y : Operand} {sd dd : TyD} {l : List UInt8} {k o1 n : Nat} {ty ty' : TypeId} {z : UInt8} (hop : o.op = .convert src dst y) (hdst : o.dst = some d) (hs : X.T src = some sd) (hsd : sd.desc = .slice e) (hdt : X.T dst = some dd) (hdd : dd.desc = .string) (he : X.T e = some ed) (hed : ed.desc = .int .u8) (hg : gd all s o = some true) (hd : dstOk X.N (some d) = true) (hy : s.opd y = .own k o1 n ty 1) (hk : s.blk k = some (.data ty' 1 eB z l)) (r : awpL X all rest Q (s.put (some d) (.d (.str (cut o1 n l))))) : awpL X all (o :: rest) Q s := stepM hdst hd (m_b2sO X.ok hop hg hs hsd he hed hdt hdd hy hk) r
theorem stepS2B {src dst e : TypeId} {y : Operand} {sd dd : TyD} {l : List UInt8} (hop : o.op = .convert src dst y) (hdst : o.dst = some d) (hs : X.T src = some sd) (hsd : sd.desc = .string) (hdt : X.T dst = some dd) (hdd : dd.desc = .slice e) (he : X.T e = some ed) (hed : ed.desc = .int .u8) (hg : gd all s o = some true) (hd : dstOk X.N (some d) = true) (hy : s.opd y = .d (.str l)) (k : awpL X all rest Q (s.put (some d) (.d (.sl 1 eB 0 l)))) : awpL X all (o :: rest) Q s := stepM hdst hd (m_s2b X.ok hop hg hs hsd hdt hdd he hed hy) k
theorem stepAppF {t : TypeId} {c : Call} {x y : Operand} {e : TypeId} (hkk : Nat.beq (opK o.op) 3 = true) (hop : o.op = .call c) (hc : c = ⟨.builtin .append, #[x, y], #[t, t]⟩) (hdst : o.dst = some d) (hx : s.opd x = .d (.full d1)) (hg : gd all s o = some true) (hd : dstOk X.N (some d) = true) (ht : X.T t = some td) (hds : td.desc = .slice e) (he : X.T e = some ed) (hz : zeroOk ed = true) (hy : s.opd y = .d d2) (le2 : LeD d2 (.sl ed.size en z l2)) (le1 : LeD d1 (.sl ed.size en z l)) (hb : l.length + l2.length ≤ 9223372036854775807 ∧ (l.length + l2.length) * ed.bytes ≤ 140737488355328) (k : awpL X all rest Q (s.put (some d) (.d (.sl ed.size en z (l ++ l2))))) : awpL X all (o :: rest) Q s := stepM hdst hd (m_appF' hop hc hg ht hds he hx hz hy le2 le1 hb) k
end

/-! ## Ways out -/
section
variable {X : Ctx} {Q : Exit → St → Prop} {K : St → Prop} {s : St} {id n : Nat}
theorem thenN (h : K s) : andThen K Q .normal s := h
theorem thenX (h : Q (.exit n) s) : andThen K Q (.exit n) s := h
theorem thenR (h : Q .ret s) : andThen K Q .ret s := h
theorem inN (h : Q .normal s) : inBlock id Q .normal s := h
theorem inR (h : Q .ret s) : inBlock id Q .ret s := h
theorem inX (h : Q .normal s) : inBlock id Q (.exit id) s := by simp only [inBlock, Nat.beq_refl]; exact h
theorem inY (he : Nat.beq n id = false) (h : Q (.exit n) s) : inBlock id Q (.exit n) s := by simp only [inBlock, he]; exact h
end

/-! ## The part of a drawn region whose order is open, then the rest -/

def awpR (ex : Bool) (X : Ctx) (all : Array Oper) (pre rest : List Oper) (Q : Exit → St → Prop) (s : St) : Prop := ∃ s1, PRun ex X all pre s s1 ∧ awpL X all rest Q s1

section
variable {ex : Bool} {X : Ctx} {all : Array Oper} {Q : Exit → St → Prop} {s : St} {o : Oper} {pre rest : List Oper}
theorem awpR_nil (h : awpL X all rest Q s) : awpR ex X all [] rest Q s := ⟨s, .nil, h⟩
theorem isMove_no (h : regOp o.op = false) : isMove o = false := by
  unfold isMove
  rw [h]; rfl
theorem isAlloc_no (h : ∀ e, o.op ≠ .alloc e) : isAlloc o = false := by
  unfold isAlloc
  split
  · rename_i e h1; exact absurd h1 (h e)
  · rfl
theorem isMove_off (h : gd all s o = some false) : isMove o = false := by
  unfold isMove
  have : o.guard ≠ none := fun e => by unfold gd at h; rw [e] at h; cases h
  cases hg : o.guard with
  | none => exact absurd hg this
  | some p => simp
theorem regOp_k {op : Op} (h : regOp op = true) : opK op = 0 := by
  cases op with
  | call c =>
    obtain ⟨cal, args, tys⟩ := c
    cases cal with
    | builtin b => cases b <;> first | rfl | cases h
    | value f => cases h
    | invoke r m => cases h
  | _ => first | rfl | cases h
theorem isMove_k {n : Nat} (h : Nat.beq (opK o.op) n = true) (hn : n ≠ 0) : isMove o = false := isMove_no (by
  have hk := Nat.eq_of_beq_eq_true h
  cases hr : regOp o.op with
  | false => rfl
  | true => rw [regOp_k hr] at hk; exact absurd hk.symm hn)
theorem isMove_call {c : Call} (h : o.op = .call c) (hb : regOp (.call c) = false) : isMove o = false := isMove_no (by rw [h]; exact hb)
theorem callee_reg {c : Call} {x : FuncId × List V} (h : calleeOf s c = some x) : regOp (.call c) = false := by
  unfold calleeOf at h
  unfold regOp
  split at h
  · rename_i y e; simp only [e]
  · cases h
theorem isMove_conv {a b : TypeId} {x : Operand} (h : o.op = .convert a b x) : isMove o = false := isMove_no (by rw [h]; rfl)
theorem isLoad_k {n : Nat} (h : Nat.beq (opK o.op) n = true) (hn : n ≠ 0) : isLoad o = false := by
  unfold isLoad
  have hk := Nat.eq_of_beq_eq_true h
  revert hk
  cases o.op <;> intro hk <;> first | rfl | exact absurd hk.symm hn
theorem isLoad_call {c : Call} (h : o.op = .call c) : isLoad o = false := by unfold isLoad; rw [h]; rfl
theorem isLoad_conv {a b : TypeId} {x : Operand} (h : o.op = .convert a b x) : isLoad o = false := by unfold isLoad; rw [h]; rfl
theorem isLoad_off (h : gd all s o = some false) : isLoad o = false := by
  unfold isLoad
  have : o.guard ≠ none := fun e => by unfold gd at h; rw [e] at h; cases h
  cases hg : o.guard with
  | none => exact absurd hg this
  | some p => simp
theorem chkLd_not {k : Option Nat} (h : isLoad o = false) : chkLd all k o = true := by unfold chkLd; rw [h]; rfl
theorem isAlloc_k {n : Nat} (h : Nat.beq (opK o.op) n = true) (hn : n ≠ 2) : isAlloc o = false := isAlloc_no fun y e => by rw [e] at h; exact hn (Nat.eq_of_beq_eq_true h).symm
theorem isAlloc_call {c : Call} (h : o.op = .call c) : isAlloc o = false := isAlloc_no fun y e => by rw [h] at e; cases e
theorem isAlloc_conv {a b : TypeId} {x : Operand} (h : o.op = .convert a b x) : isAlloc o = false := isAlloc_no fun y e => by rw [h] at e; cases e
theorem awpR_cons {x : D} {d : Tmp} (hn : isMove o = false) (hna : isAlloc o = false) (hnl : isLoad o = false) (hdst : o.dst = some d) (hd : dstOk X.N (some d) = true) (h : M1 X all s o (.d x)) (k : awpR ex X all pre rest Q (s.put (some d) (.d x))) : awpR ex X all (o :: pre) rest Q s := by
  rw [← hdst] at hd k
  obtain ⟨s1, h1, h2⟩ := k
  exact ⟨s1, .cons hd h (fun hm => by rw [hn] at hm; cases hm) hna rfl (fun hm => by rw [hnl] at hm; cases hm) (fun _ => chkLd_not hnl) h1, h2⟩
theorem opd_agree {s' : St} {y : Operand} (hy : y ∈ o.op.operands.toList) (h : ∀ t ∈ o.looksAt all, s'.tmps t = s.tmps t) : s'.opd y = s.opd y := by
  cases y with
  | tmp t => exact h t (by unfold Oper.looksAt; rw [List.mem_append]; left; rw [List.mem_filterMap]; exact ⟨_, hy, rfl⟩)
  | const v => rfl
  | global g => rfl
  | func f => rfl
theorem gd_agree {s' : St} (h : ∀ t ∈ o.looksAt all, s'.tmps t = s.tmps t) : gd all s' o = gd all s o := by
  unfold gd
  cases hg : o.guard with
  | none => rfl
  | some p =>
    obtain ⟨g, want⟩ := p
    simp only
    cases hd : (all[g]?).bind (·.dst) with
    | none => rfl
    | some d => simp only [h d (by unfold Oper.looksAt; rw [List.mem_append]; right; simp [hg, hd])]
theorem evalQ_move {T : TypeId → Option TyD} {m : Bool} {s' : St} (hm : isMove o = true) (h : ∀ t ∈ o.looksAt all, s'.tmps t = s.tmps t) : evalQ T m s' o.op = evalQ T m s o.op := by
  have hop := fun y hy => opd_agree (s := s) (s' := s') (o := o) (all := all) (y := y) hy h
  unfold isMove at hm
  rw [Bool.and_eq_true] at hm
  have hr := hm.1
  unfold regOp at hr
  split at hr
  · rename_i y e; rw [e] at hop ⊢; simp only [evalQ, hop y (by simp [Op.operands])]
  · rename_i y e; rw [e] at hop ⊢; simp only [evalQ, hop y (by simp [Op.operands])]
  · rename_i y i e; rw [e] at hop ⊢; simp only [evalQ, hop y (by simp [Op.operands])]
  · rename_i a b x y c e; rw [e] at hop ⊢; simp only [evalQ, hop x (by simp [Op.operands]), hop y (by simp [Op.operands])]
  · rename_i t x i e; rw [e] at hop ⊢; simp only [evalQ, hop x (by simp [Op.operands]), hop i (by simp [Op.operands])]
  · rename_i t x f e; rw [e] at hop ⊢; simp only [evalQ, hop x (by simp [Op.operands])]
  · rename_i x e; rw [e] at hop ⊢; simp only [evalQ, hop x (by simp [Op.operands])]
  · rename_i c e
    rw [e] at hop ⊢
    obtain ⟨cal, args, tys⟩ := c
    cases cal with
    | builtin b =>
      have h2 : ∀ y ∈ args.toList, s'.opd y = s.opd y := fun y hy => hop y (by simp only [Op.operands, Call.operands]; simpa using hy)
      simp only [evalQ]
      cases hl : args.toList with
      | nil => cases b <;> cases tys[0]? <;> rfl
      | cons x t => cases t with
        | nil => cases b <;> cases tys[0]? <;> first | rfl | (dsimp only; rw [h2 x (by rw [hl]; simp)])
        | cons y u => cases u with
          | nil => cases b <;> cases tys[0]? <;> first | rfl | (dsimp only; rw [h2 x (by rw [hl]; simp), h2 y (by rw [hl]; simp)])
          | cons z u => cases b <;> cases tys[0]? <;> rfl
    | value f => rfl
    | invoke r m => rfl
  · cases hr
theorem evalQ_load {T : TypeId → Option TyD} {m : Bool} {s' : St} {r : Prop × V} (hm : isLoad o = true) (hq : evalQ T m s o.op = some r) (h : ∀ t ∈ o.looksAt all, s'.tmps t = s.tmps t) (hb : ∀ k b, keyOf s o = some k → s.blk k = some b → s'.blk k = some b) : evalQ T m s' o.op = some r := by
  have hop := fun y hy => opd_agree (s := s) (s' := s') (o := o) (all := all) (y := y) hy h
  unfold isLoad at hm
  rw [Bool.and_eq_true] at hm
  have hr := hm.1
  split at hr
  · rename_i t y e
    unfold keyOf at hb
    rw [e] at hop hq hb ⊢
    simp only [evalQ, hop y (by simp [Op.operands])] at hq hb ⊢
    cases hT : T t with
    | none => rw [hT] at hq; cases hq
    | some td =>
      rw [hT] at hq
      cases hy : s.opd y with
      | ptr k o1 =>
        rw [hy] at hq hb
        cases hk : s.blk k with
        | none => simp only [hk] at hq; cases hq
        | some b => simp only [hb k b rfl hk]; simp only [hk] at hq; exact hq
      | eptr k sz i o1 =>
        rw [hy] at hq hb
        cases hk : s.blk k with
        | none => simp only [hk] at hq; cases hq
        | some b => simp only [hb k b rfl hk]; simp only [hk] at hq; exact hq
      | d x => rw [hy] at hq; cases x <;> first | exact hq | cases hq
      | _ => rw [hy] at hq; cases hq
  · cases hr
theorem awpR_consQ {x : V} {d : Tmp} (m : Bool) {C : Prop} (hg : gd all s o = some true) (hq : evalF X.T m s o.op = some (C, x)) (hC : C) (hf : chkV all x = true) (hx : (!ex || chkLd all (keyOf s o) o) = true) (hdst : o.dst = some d) (hd : dstOk X.N (some d) = true) (k : awpR ex X all pre rest Q (s.put (some d) x)) : awpR ex X all (o :: pre) rest Q s := by
  rw [← hdst] at hd k
  obtain ⟨s1, h1, h2⟩ := k
  refine ⟨s1, .cons hd (m_q m hg hq hC) (fun hm s' hs' => m_q m ((gd_agree hs').trans hg) ?_ hC) (isAlloc_no fun e he => ?_) hf (fun hm s' hs' hb => m_q m ((gd_agree hs').trans hg) ?_ hC) (fun e => by subst e; simpa using hx) h1, h2⟩
  · rw [evalF_eq] at hq ⊢
    rw [evalQ_move hm hs']; exact hq
  · rw [evalF_eq, he] at hq
    simp only [evalQ] at hq
    cases hq
  · rw [evalF_eq] at hq ⊢
    exact evalQ_load hm hq hs' hb
theorem awpR_store {k : Nat} {b b0 : Blk} (hs : isStore o = true) (hdst : o.dst = none) (hk : s.blk k = some b0) (hl : b.ln = b0.ln) (hkk : chkK all o k = true) (hf : chkB all b = true) (h : S1 X all s o k b) (hx : (!ex || chkSt all o k) = true) (kk : awpR ex X all pre rest Q (s.withBlk k b)) : awpR ex X all (o :: pre) rest Q s := by
  obtain ⟨s1, h1, h2⟩ := kk
  exact ⟨s1, .store hs hdst hk hl hkk hf h (fun e => by subst e; simpa using hx) h1, h2⟩
theorem stepRStore {α : Type} {en : α → List D} {z : α} {l : List α} {td : TyD} {t ety : TypeId} {addr x : Operand} {k sz i f : Nat} {y : D} {cs : List D} {a' : α} (hkk : Nat.beq (opK o.op) 1 = true) (hop : o.op = .store t addr x) (hdst : o.dst = none) (hg : gd all s o = some true) (ht : X.T t = some td) (ha : s.opd addr = .eptr k sz i f) (hk : s.blk k = some (.data ety sz en z l)) (hx : s.opd x = .d y) (hst : ((V.d y).storable && Nat.beq y.cells.length td.size) = true) (hp : putL (en (l.getD i z)) f y.cells = some cs) (hle : LeL cs (en a')) (hi : i < l.length) (hck : chkK all o k = true) (hxx : (!ex || chkSt all o k) = true) (r : awpR ex X all pre rest Q (s.withBlk k (.data ety sz en z (l.set i a')))) : awpR ex X all (o :: pre) rest Q s := by
  obtain ⟨dst, op, ty, pos, after, g⟩ := o
  cases hop; cases hdst
  refine awpR_store rfl rfl hk (by simp only [Blk.ln, List.length_set]) hck rfl (fun s' hb _ htm => ?_) hxx r
  exact e_store X.ok ((gd_agree htm).trans hg) ht ((opd_agree (by simp [Op.operands]) htm).trans ha) (hb.bl _ _ hk) ((opd_agree (by simp [Op.operands]) htm).trans hx) hst hp hle hi
theorem stepRStoreB {td : TyD} {t ety : TypeId} {addr x : Operand} {k i : Nat} {cs cs' : List V} {xv : V} (hkk : Nat.beq (opK o.op) 1 = true) (hop : o.op = .store t addr x) (hdst : o.dst = none) (hg : gd all s o = some true) (ht : X.T t = some td) (ha : s.opd addr = .ptr k i) (hk : s.blk k = some (.box ety cs)) (hx : s.opd x = xv) (hst : (xv.storable && Nat.beq xv.cells.length td.size) = true) (hp : putL cs i xv.cells = some cs') (hck : chkK all o k = true) (hf : chkB all (.box ety cs') = true) (hxx : (!ex || chkSt all o k) = true) (r : awpR ex X all pre rest Q (s.withBlk k (.box ety cs'))) : awpR ex X all (o :: pre) rest Q s := by
  obtain ⟨dst, op, ty, pos, after, g⟩ := o
  cases hop; cases hdst
  refine awpR_store (b := .box ety cs') rfl rfl hk rfl hck hf (fun s' hb _ htm => ?_) hxx r
  have h1 : s'.opd addr = .ptr k i := (opd_agree (o := ⟨none, .store t addr x, ty, pos, after, g⟩) (all := all) (by simp [Op.operands]) htm).trans ha
  have h2 : s'.opd x = xv := (opd_agree (o := ⟨none, .store t addr x, ty, pos, after, g⟩) (all := all) (by simp [Op.operands]) htm).trans hx
  have he : evalE X.T s' none (.store t addr x) = some (none, s'.withBlk k (.box ety cs')) := by
    simp only [evalE, ht, h1, hb.bl _ _ hk, h2, hst, hp]
  exact e_eff X.ok ((gd_agree htm).trans hg) rfl (fun d e => by cases e) he
theorem stepRAlloc {d : Tmp} {e : TypeId} {ed : TyD} (hkk : Nat.beq (opK o.op) 2 = true) (hop : o.op = .alloc e) (hdst : o.dst = some d) (hgn : o.guard = none) (he : X.T e = some ed) (hst : (V.d (D.ofV ed.zero)).storable = true) (hn : s.blk d = none) (hd : dstOk X.N (some d) = true) (hK : X.K.contains d = false) (hf : chkB all (.box e (V.d (D.ofV ed.zero)).cells) = true) (r : awpR ex X all pre rest Q ((s.withBlk d (.box e (V.d (D.ofV ed.zero)).cells)).put (some d) (.ptr d 0))) : awpR ex X all (o :: pre) rest Q s := by
  obtain ⟨dst, op, ty, pos, after, g⟩ := o
  cases hop; cases hdst; cases hgn
  obtain ⟨s1, h1, h2⟩ := r
  refine ⟨s1, .alloc rfl rfl hn rfl hf (fun s' hs' => ?_) h1, h2⟩
  have hev : evalE X.T s' (some d) (.alloc e) = some (some (.ptr d 0), s'.new d (.box e (V.d (D.ofV ed.zero)).cells)) := by
    simp only [evalE, he, hst]
  have hnew : s'.new d (.box e (V.d (D.ofV ed.zero)).cells) = s'.withBlk d (.box e (V.d (D.ofV ed.zero)).cells) := by unfold St.new; rw [hs'.sub]
  rw [← hnew]
  exact e_eff X.ok (all := all) (o := ⟨some d, .alloc e, ty, pos, after, none⟩) (s := s') rfl hd (fun d' e => by cases e; exact hK) hev
theorem put_self {s : St} {d : Tmp} {x : V} (h : s.tmps d = x) : s.put (some d) x = s := by
  have : (s.put (some d) x).tmps = s.tmps := by
    funext t
    simp only [St.put]
    cases hb : Nat.beq t d with
    | true => have := Nat.eq_of_beq_eq_true hb; subst this; simp [h]
    | false => rfl
  cases s
  simp only [St.put] at this ⊢
  rw [this]
theorem stepRQ {d : Tmp} {C : Prop} {x : V} (m : Bool) (hk : Nat.beq (opK o.op) 0 = true) (hg : gd all s o = some true) (hdst : o.dst = some d) (hd : dstOk X.N (some d) = true) (hq : evalF X.T m s o.op = some (C, x)) (hC : C) (hf : chkV all x = true) (hx : (!ex || chkLd all (keyOf s o) o) = true) (k : awpR ex X all pre rest Q (s.put (some d) x)) : awpR ex X all (o :: pre) rest Q s := awpR_consQ m hg hq hC hf hx hdst hd k
theorem stepROff {d : Tmp} (hg : gd all s o = some false) (hdst : o.dst = some d) (hd : dstOk X.N (some d) = true) (hna : isAlloc o = false) (k : awpR ex X all pre rest Q (s.put (some d) (.d (.tup [])))) : awpR ex X all (o :: pre) rest Q s := awpR_cons (isMove_off hg) hna (isLoad_off hg) hdst hd (m_off hg) k
theorem stepRLit {d : Tmp} {e : TypeId} {sz len : Nat} {rows : List (List D)} (hkk : Nat.beq (opK o.op) 5 = true) (h : evalB X.T s o.op = some (e, sz, len, rows)) (hdst : o.dst = some d) (hg : gd all s o = some true) (hd : dstOk X.N (some d) = true) (k : awpR ex X all pre rest Q (s.put (some d) (.d (.sl sz (nth [] rows) 0 (iota len 0))))) : awpR ex X all (o :: pre) rest Q s := awpR_cons (isMove_k hkk (by decide)) (isAlloc_k hkk (by decide)) (isLoad_k hkk (by decide)) hdst hd (m_lit X.ok hg h) k
theorem stepRLitF {d : Tmp} {e : TypeId} {sz len : Nat} {rows : List (List D)} (hkk : Nat.beq (opK o.op) 5 = true) (hdst : o.dst = some d) (hla : (litApp d pre || litApp d rest) = true) (h : evalB X.T s o.op = some (e, sz, len, rows)) (hg : gd all s o = some true) (hd : dstOk X.N (some d) = true) (k : awpR ex X all pre rest Q (s.put (some d) (.d (.full (.sl sz (nth [] rows) 0 (iota len 0)))))) : awpR ex X all (o :: pre) rest Q s := awpR_cons (isMove_k hkk (by decide)) (isAlloc_k hkk (by decide)) (isLoad_k hkk (by decide)) hdst hd (m_litF X.ok hg h) k
theorem stepRB2S {d : Tmp} {src dst e : TypeId} {y : Operand} {sd ed dd : TyD} {l : List UInt8} {d1 : D} (hop : o.op = .convert src dst y) (hdst : o.dst = some d) (hs : X.T src = some sd) (hsd : sd.desc = .slice e) (hdt : X.T dst = some dd) (hdd : dd.desc = .string) (he : X.T e = some ed) (hed : ed.desc = .int .u8) (hg : gd all s o = some true) (hd : dstOk X.N (some d) = true) (hy : s.opd y = .d d1) (le : LeD d1 (.sl 1 eB 0 l)) (k : awpR ex X all pre rest Q (s.put (some d) (.d (.str l)))) : awpR ex X all (o :: pre) rest Q s := awpR_cons (isMove_conv hop) (isAlloc_conv hop) (isLoad_conv hop) hdst hd (m_b2s X.ok hop hg hs hsd he hed hdt hdd hy le) k
theorem stepRB2SO {d : Tmp} {src dst e : TypeId} {y : Operand} {sd ed dd : TyD} {l : List UInt8} {k o1 n : Nat} {ty ty' : TypeId} {z : UInt8} (hop : o.op = .convert src dst y) (hdst : o.dst = some d) (hs : X.T src = some sd) (hsd : sd.desc = .slice e) (hdt : X.T dst = some dd) (hdd : dd.desc = .string) (he : X.T e = some ed) (hed : ed.desc = .int .u8) (hg : gd all s o = some true) (hd : dstOk X.N (some d) = true) (hy : s.opd y = .own k o1 n ty 1) (hk : s.blk k = some (.data ty' 1 eB z l)) (r : awpR ex X all pre rest Q (s.put (some d) (.d (.str (cut o1 n l))))) : awpR ex X all (o :: pre) rest Q s := awpR_cons (isMove_conv hop) (isAlloc_conv hop) (isLoad_conv hop) hdst hd (m_b2sO X.ok hop hg hs hsd he hed hdt hdd hy hk) r
theorem stepRS2B {d : Tmp} {src dst e : TypeId} {y : Operand} {sd ed dd : TyD} {l : List UInt8} (hop : o.op = .convert src dst y) (hdst : o.dst = some d) (hs : X.T src = some sd) (hsd : sd.desc = .string) (hdt : X.T dst = some dd) (hdd : dd.desc = .slice e) (he : X.T e = some ed) (hed : ed.desc = .int .u8) (hg : gd all s o = some true) (hd : dstOk X.N (some d) = true) (hy : s.opd y = .d (.str l)) (k : awpR ex X all pre rest Q (s.put (some d) (.d (.sl 1 eB 0 l)))) : awpR ex X all (o :: pre) rest Q s := awpR_cons (isMove_conv hop) (isAlloc_conv hop) (isLoad_conv hop) hdst hd (m_s2b X.ok hop hg hs hsd hdt hdd he hed hy) k
theorem stepRAppF {d : Tmp} {α : Type} {en : α → List D} {z : α} {l l2 : List α} {td ed : TyD} {d1 d2 : D} {t : TypeId} {c : Call} {x y : Operand} {e : TypeId} (hkk : Nat.beq (opK o.op) 3 = true) (hop : o.op = .call c) (hc : c = ⟨.builtin .append, #[x, y], #[t, t]⟩) (hdst : o.dst = some d) (hx : s.opd x = .d (.full d1)) (hg : gd all s o = some true) (hd : dstOk X.N (some d) = true) (ht : X.T t = some td) (hds : td.desc = .slice e) (he : X.T e = some ed) (hz : zeroOk ed = true) (hy : s.opd y = .d d2) (le2 : LeD d2 (.sl ed.size en z l2)) (le1 : LeD d1 (.sl ed.size en z l)) (hb : l.length + l2.length ≤ 9223372036854775807 ∧ (l.length + l2.length) * ed.bytes ≤ 140737488355328) (k : awpR ex X all pre rest Q (s.put (some d) (.d (.sl ed.size en z (l ++ l2))))) : awpR ex X all (o :: pre) rest Q s := awpR_cons (isMove_call hop (by rw [hc]; rfl)) (isAlloc_call hop) (isLoad_call hop) hdst hd (m_appF' hop hc hg ht hds he hx hz hy le2 le1 hb) k
theorem awpR_guard {d : Tmp} {b : Bool} (hd : s.tmps d = .d (.bool b)) (h1 : b = true → awpR ex X all pre rest Q (s.put (some d) (.d (.bool true)))) (h2 : b = false → awpR ex X all pre rest Q (s.put (some d) (.d (.bool false)))) : awpR ex X all pre rest Q s := by
  cases b with
  | true => have := h1 rfl; rwa [put_self hd] at this
  | false => have := h2 rfl; rwa [put_self hd] at this
theorem awp_regE {ex : Bool} (id n : Nat) (ks : List Nat) {ops : List Oper} (hm : X.P.follows .mixedOrders = true) (hok : ordOk ex ops.toArray n = true) (hak : allocKeys ops.toArray = ks) (hK : (ks.all fun k => !(X.K.contains k)) = true) (h : awpR ex X ops.toArray (ops.take n) (ops.drop n) Q (s.kills ks)) : awp X (.region id ops.toArray true) Q s := by
  subst hak
  obtain ⟨s1, h1, h2⟩ := h
  exact awp_region_ord hm n hok hK h1 h2
theorem awp_regK (id n : Nat) (ks : List Nat) {ops : List Oper} (hm : X.P.follows .mixedOrders = true) (hok : ordOk false ops.toArray n = true) (hak : allocKeys ops.toArray = ks) (hK : (ks.all fun k => !(X.K.contains k)) = true) (h : awpR false X ops.toArray (ops.take n) (ops.drop n) Q (s.kills ks)) : awp X (.region id ops.toArray true) Q s := awp_regE id n ks hm hok hak hK h
theorem awp_reg (id n : Nat) {ops : List Oper} (hm : X.P.follows .mixedOrders = true) (hok : ordOk false ops.toArray n = true) (hak : allocKeys ops.toArray = []) (h : awpR false X ops.toArray (ops.take n) (ops.drop n) Q s) : awp X (.region id ops.toArray true) Q s := awp_regK id n [] hm hok hak rfl h
end

/-! ## Guards that are open -/

def guardOf (all : Array Oper) (o : Oper) : Option Tmp := match o.guard with | none => none | some (g, _) => (all[g]?).bind (·.dst)

section
variable {ex : Bool} {X : Ctx} {all : Array Oper} {Q : Exit → St → Prop} {s : St} {o : Oper} {pre rest : List Oper} {d : Tmp}
theorem gdL {b : Bool} (hg : guardOf all o = some d) (hd : s.tmps d = .d (.bool b)) (h1 : b = true → awpL X all (o :: rest) Q (s.put (some d) (.d (.bool true)))) (h2 : b = false → awpL X all (o :: rest) Q (s.put (some d) (.d (.bool false)))) : awpL X all (o :: rest) Q s := awpL_guard hd h1 h2
theorem gdR {b : Bool} (hg : guardOf all o = some d) (hd : s.tmps d = .d (.bool b)) (h1 : b = true → awpR ex X all (o :: pre) rest Q (s.put (some d) (.d (.bool true)))) (h2 : b = false → awpR ex X all (o :: pre) rest Q (s.put (some d) (.d (.bool false)))) : awpR ex X all (o :: pre) rest Q s := awpR_guard hd h1 h2
end
section
variable {ex : Bool} {X : Ctx} {all : Array Oper} {Q : Exit → St → Prop} {s : St} {o : Oper} {pre rest : List Oper} {d : Tmp} {p : Prop} [Decidable p]
theorem gdLD (hg : guardOf all o = some d) (hd : s.tmps d = .d (.bool (decide p))) (h1 : p → awpL X all (o :: rest) Q (s.put (some d) (.d (.bool true)))) (h2 : ¬ p → awpL X all (o :: rest) Q (s.put (some d) (.d (.bool false)))) : awpL X all (o :: rest) Q s := awpL_guard hd (fun e => h1 (of_decide_eq_true e)) (fun e => h2 (of_decide_eq_false e))
theorem gdLN (hg : guardOf all o = some d) (hd : s.tmps d = .d (.bool (!decide p))) (h1 : ¬ p → awpL X all (o :: rest) Q (s.put (some d) (.d (.bool true)))) (h2 : p → awpL X all (o :: rest) Q (s.put (some d) (.d (.bool false)))) : awpL X all (o :: rest) Q s := awpL_guard hd (fun e => h1 (of_decide_eq_false (by simpa using e))) (fun e => h2 (of_decide_eq_true (by simpa using e)))
theorem gdRD (hg : guardOf all o = some d) (hd : s.tmps d = .d (.bool (decide p))) (h1 : p → awpR ex X all (o :: pre) rest Q (s.put (some d) (.d (.bool true)))) (h2 : ¬ p → awpR ex X all (o :: pre) rest Q (s.put (some d) (.d (.bool false)))) : awpR ex X all (o :: pre) rest Q s := awpR_guard hd (fun e => h1 (of_decide_eq_true e)) (fun e => h2 (of_decide_eq_false e))
theorem gdRN (hg : guardOf all o = some d) (hd : s.tmps d = .d (.bool (!decide p))) (h1 : ¬ p → awpR ex X all (o :: pre) rest Q (s.put (some d) (.d (.bool true)))) (h2 : p → awpR ex X all (o :: pre) rest Q (s.put (some d) (.d (.bool false)))) : awpR ex X all (o :: pre) rest Q s := awpR_guard hd (fun e => h1 (of_decide_eq_false (by simpa using e))) (fun e => h2 (of_decide_eq_true (by simpa using e)))
end
section
variable {ex : Bool} {X : Ctx} {all : Array Oper} {Q : Exit → St → Prop} {s : St} {o : Oper} {pre rest : List Oper} {c : Call} {caps : List V} {ds' : List D} {r : D}

def CallM (X : Ctx) (all : Array Oper) (s : St) (o : Oper) (f : FuncId) (ds' : List D) (r : D) : Prop := Ret X.P f ds' (· = r) → M1 X all s o (.d r)
def CallE (X : Ctx) (all : Array Oper) (s s1 : St) (o : Oper) (f : FuncId) (ds' : List D) (r : D) : Prop := Ret X.P f ds' (· = r) → E1 X all s o (s1.put o.dst (.d r))

theorem callM_plain {f : FuncId} (hop : o.op = .call c) (hg : gd all s o = some true) (hc : calleeOf s c = some (f, caps)) (hk : (allD (c.args.toList.map s.opd ++ caps)).isSome = true) {ds : List D} (ha : allD (c.args.toList.map s.opd ++ caps) = some ds) (le : LeT ds ds') : CallM X all s o f ds' r := fun hr => m_callR hg hop hc ha le hr
theorem callM_lent {f : FuncId} (m : Bool) (hop : o.op = .call c) (hg : gd all s o = some true) (hc : calleeOf s c = some (f, caps)) (hk2 : (allD (c.args.toList.map s.opd ++ caps)).isSome = false) (hk : (V.asDs m s (c.args.toList.map s.opd ++ caps)).isSome = true) {C : Prop} {ds : List D} (ha : V.asDs m s (c.args.toList.map s.opd ++ caps) = some (C, ds)) (le : LeT ds ds') (hn : r.noRef = true) (hC : C) : CallM X all s o f ds' r := fun hr => m_callB hg hop hc m ha le hr hC hn
theorem callE_of {f : FuncId} (hd : dstOk X.N o.dst = true) (h : CallM X all s o f ds' r) : CallE X all s s o f ds' r := fun hr => (h hr).e1 hd
theorem callE_frz {f : FuncId} {s1 : St} (hop : o.op = .call c) (hc : calleeOf s c = some (f, caps)) (hkk : (ownKey (c.args.toList.map s.opd ++ caps)).isSome = true) {k : Nat} {b : Blk} (hk : ownKey (c.args.toList.map s.opd ++ caps) = some k) (hb : s.blk k = some b) (h : CallE X all (s.sub k (some b)) s1 o f ds' r) : CallE X all s s1 o f ds' r := fun hr => e_frz k hb (h hr)

def calleeIs (s : St) (op : Op) (f : FuncId) : Bool := match op with | .call c => (match calleeOf s c with | some (g, _) => Nat.beq g f | none => false) | _ => false
theorem cl {s1 : St} {d : Tmp} (f : FuncId) (hcf : calleeIs s o.op f = true) (hop : o.op = .call c) (hc : calleeOf s c = some (f, caps)) (hdst : o.dst = some d) (h : CallE X all s s1 o f ds' r := by
  first
  | exact Go.Vw.callE_of rfl (Go.Vw.callM_plain rfl rfl rfl Go.Vw.tt rfl Go.Vw.leT)
  | exact Go.Vw.callE_of rfl (Go.Vw.callM_lent true rfl rfl rfl Go.Vw.ff Go.Vw.tt rfl Go.Vw.leT rfl Go.Vw.sc)
  | exact Go.Vw.callE_of rfl (Go.Vw.callM_lent false rfl rfl rfl Go.Vw.ff Go.Vw.tt rfl Go.Vw.leT rfl Go.Vw.sc)
  | exact Go.Vw.callE_frz rfl rfl Go.Vw.tt rfl rfl (Go.Vw.callE_of rfl (Go.Vw.callM_plain rfl rfl rfl Go.Vw.tt rfl Go.Vw.leT))
  | exact Go.Vw.callE_frz rfl rfl Go.Vw.tt rfl rfl (Go.Vw.callE_frz rfl rfl Go.Vw.tt rfl rfl (Go.Vw.callE_of rfl (Go.Vw.callM_plain rfl rfl rfl Go.Vw.tt rfl Go.Vw.leT)))
  | fail) (hr : Ret X.P f ds' (· = r)) (k : awpL X all rest Q (s1.put (some d) (.d r))) : awpL X all (o :: rest) Q s := by
  rw [← hdst] at k
  exact awpL_step (h hr) k
theorem clR {d : Tmp} (f : FuncId) (hcf : calleeIs s o.op f = true) (hop : o.op = .call c) (hc : calleeOf s c = some (f, caps)) (hdst : o.dst = some d) (h : CallM X all s o f ds' r := by
  first
  | exact Go.Vw.callM_plain rfl rfl rfl Go.Vw.tt rfl Go.Vw.leT
  | exact Go.Vw.callM_lent true rfl rfl rfl Go.Vw.ff Go.Vw.tt rfl Go.Vw.leT rfl Go.Vw.sc
  | exact Go.Vw.callM_lent false rfl rfl rfl Go.Vw.ff Go.Vw.tt rfl Go.Vw.leT rfl Go.Vw.sc
  | fail) (hd : dstOk X.N (some d) = true := by exact rfl) (hr : Ret X.P f ds' (· = r)) (k : awpR ex X all pre rest Q (s.put (some d) (.d r))) : awpR ex X all (o :: pre) rest Q s :=
  awpR_cons (isMove_call hop (callee_reg hc)) (isAlloc_call hop) (isLoad_call hop) hdst hd (h hr) k
end

theorem fin {T : TypeId → Option TyD} {fn : Func} {R : D → Prop} {s : St} (m : Bool) {C : Prop} {r : D} (hd : s.dfs = []) (h : resOf T m s fn.results.toList = some (C, r)) (hR : R r) (hC : C := by exact Go.Vw.sc) : retPost T fn R .ret s := ⟨hd, m, C, r, r, h, hC, LeD.refl _, hR⟩
section
variable {T : TypeId → Option TyD} {fn : Func} {x : D} {s : St} {C : Prop} {r : D}
theorem finE (m : Bool) (hd : s.dfs = []) (h : resOf T m s fn.results.toList = some (C, r)) (hC : C) (hR : r = x) : retPost T fn (fun y => y = x) .ret s := ⟨hd, m, C, r, x, h, hC, hR ▸ LeD.refl _, rfl⟩
theorem finLe (m : Bool) (hd : s.dfs = []) (h : resOf T m s fn.results.toList = some (C, r)) (hC : C) (hR : LeD r x) : retPost T fn (fun y => y = x) .ret s := ⟨hd, m, C, r, x, h, hC, hR, rfl⟩
theorem finF (m : Bool) (hd : s.dfs = []) {sz : Nat} {α : Type} {e : α → List D} {z : α} {l l' : List α} (h : resOf T m s fn.results.toList = some (C, .sl sz e z (cut 0 l'.length l'))) (hC : C) (hR : l' = l) : retPost T fn (fun y => y = .sl sz e z l) .ret s := by
  subst hR; exact finLe m hd h hC LeD.full
theorem finC (m : Bool) (hd : s.dfs = []) {sz n : Nat} {α : Type} {e : α → List D} {z : α} {l l' : List α} (h : resOf T m s fn.results.toList = some (C, .sl sz e z (cut 0 n l'))) (hC : C) (hn : n = l'.length) (hR : l' = l) : retPost T fn (fun y => y = .sl sz e z l) .ret s := by
  subst hR; exact finLe m hd h hC (LeD.cutAll hn)
theorem finT (m : Bool) (hd : s.dfs = []) {rs ys : List D} (h : resOf T m s fn.results.toList = some (C, .tup rs)) (hC : C) (hR : LeT rs ys) : retPost T fn (fun y => y = .tup ys) .ret s := finLe m hd h hC (LeD.tup hR)
theorem finN (hd : s.dfs = []) (h : resOf T true s fn.results.toList = some (C, .nils)) (hC : C) {sz : Nat} {α : Type} {e : α → List D} {z : α} {l : List α} (hR : l = []) : retPost T fn (fun y => y = .sl sz e z l) .ret s := by
  subst hR; exact finLe true hd h hC LeD.nils
theorem finL (m : Bool) (hd : s.dfs = []) {sz n : Nat} {rows : List (List D)} (h : resOf T m s fn.results.toList = some (C, .sl sz (nth [] rows) 0 (iota n 0))) (hC : C) (hn : rows.length = n) {α : Type} {e : α → List D} {z : α} {l l' : List α} (hl : LeR sz rows e l') (hR : l' = l) : retPost T fn (fun y => y = .sl sz e z l) .ret s := by
  subst hR; exact finLe m hd h hC (LeD.lit hn hl)
end

/-! ## Short words: ways and ends -/

section
variable {ex : Bool} {X : Ctx} {all : Array Oper} {Q : Exit → St → Prop} {s : St} {o : Oper} {pre rest : List Oper} {G G1 G2 : Prop}
theorem finG {T : TypeId → Option TyD} {fn : Func} {R : D → Prop} {e : Exit} (k : G) (h : G → retPost T fn R e s := by
  first
  | exact Go.Vw.finF true rfl rfl Go.Vw.sc
  | exact Go.Vw.finF false rfl rfl Go.Vw.sc
  | exact Go.Vw.finC false rfl rfl Go.Vw.sc Go.Vw.sc
  | exact Go.Vw.finN rfl rfl Go.Vw.sc
  | exact Go.Vw.finL true rfl rfl Go.Vw.sc rfl (Go.Vw.LeR.cons rfl Go.Vw.leL Go.Vw.LeR.nil)
  | exact Go.Vw.finE true rfl rfl Go.Vw.sc
  | exact Go.Vw.finE false rfl rfl Go.Vw.sc
  | fail) : retPost T fn R e s := h k
theorem finTG {T : TypeId → Option TyD} {fn : Func} {R : D → Prop} {e : Exit} (k : G) (h : G → retPost T fn R e s := by
  first
  | exact Go.Vw.finF true rfl rfl Go.Vw.sc
  | exact Go.Vw.finF false rfl rfl Go.Vw.sc
  | exact Go.Vw.finC false rfl rfl Go.Vw.sc Go.Vw.sc
  | exact Go.Vw.finN rfl rfl Go.Vw.sc
  | exact Go.Vw.finL true rfl rfl Go.Vw.sc rfl (Go.Vw.LeR.cons rfl Go.Vw.leL Go.Vw.LeR.nil)
  | exact Go.Vw.finT true rfl rfl Go.Vw.sc
  | exact Go.Vw.finT false rfl rfl Go.Vw.sc
  | exact Go.Vw.finE true rfl rfl Go.Vw.sc
  | exact Go.Vw.finE false rfl rfl Go.Vw.sc
  | fail) : retPost T fn R e s := h k
end
end Go.Vw

/-
  The types of the translation, as a table, and that the program has them so. Conditions: none.
-/
set_option maxRecDepth 100000
namespace Go.Proofs.YtfnonogemgnlhaaDoor
open Go.Vw
def T : TypeId → Option TyD
  | 2 => some ⟨.int .i64, 1, 8, .int .i64 0⟩
  | 3 => some ⟨.int .i64, 1, 8, .int .i64 0⟩
  | 4 => some ⟨.bool, 1, 1, .bool false⟩
  | 5 => some ⟨.int .u8, 1, 1, .int .u8 0⟩
  | 6 => some ⟨.int .u8, 1, 1, .int .u8 0⟩
  | 9 => some ⟨.string, 1, 16, .string .empty⟩
  | 10 => some ⟨.string, 1, 16, .string .empty⟩
  | 11 => some ⟨.string, 1, 16, .string .empty⟩
  | 12 => some ⟨.int .u64, 1, 8, .int .u64 0⟩
  | 15 => some ⟨.pointer 109, 1, 8, .pointer none⟩
  | 16 => some ⟨.pointer 112, 1, 8, .pointer none⟩
  | 17 => some ⟨.pointer 119, 1, 8, .pointer none⟩
  | 21 => some ⟨.int .i32, 1, 4, .int .i32 0⟩
  | 23 => some ⟨.slice 38, 1, 24, .slice none 0 0⟩
  | 24 => some ⟨.struct #[⟨ "Response", 9, 0, false, "", "", 0⟩, ⟨ "Right", 23, 1, false, "", "", 16⟩], 2, 40, .agg #[.string .empty, .slice none 0 0]⟩
  | 25 => some ⟨.struct #[⟨ "Response", 9, 0, false, "", "", 0⟩, ⟨ "Right", 23, 1, false, "", "", 16⟩], 2, 40, .agg #[.string .empty, .slice none 0 0]⟩
  | 26 => some ⟨.int .i64, 1, 8, .int .i64 0⟩
  | 37 => some ⟨.struct #[⟨ "Op", 3, 0, false, "", "", 0⟩, ⟨ "Name", 9, 1, false, "", "", 8⟩, ⟨ "Num", 3, 2, false, "", "", 24⟩], 3, 32, .agg #[.int .i64 0, .string .empty, .int .i64 0]⟩
  | 38 => some ⟨.struct #[⟨ "Op", 3, 0, false, "", "", 0⟩, ⟨ "Name", 9, 1, false, "", "", 8⟩, ⟨ "Num", 3, 2, false, "", "", 24⟩], 3, 32, .agg #[.int .i64 0, .string .empty, .int .i64 0]⟩
  | 40 => some ⟨.pointer 42, 1, 8, .pointer none⟩
  | 41 => some ⟨.struct #[⟨ "text", 9, 0, false, "", "robuststats/formula", 0⟩, ⟨ "from", 3, 1, false, "", "robuststats/formula", 16⟩, ⟨ "end", 3, 2, false, "", "robuststats/formula", 24⟩], 3, 32, .agg #[.string .empty, .int .i64 0, .int .i64 0]⟩
  | 42 => some ⟨.struct #[⟨ "text", 9, 0, false, "", "robuststats/formula", 0⟩, ⟨ "from", 3, 1, false, "", "robuststats/formula", 16⟩, ⟨ "end", 3, 2, false, "", "robuststats/formula", 24⟩], 3, 32, .agg #[.string .empty, .int .i64 0, .int .i64 0]⟩
  | 43 => some ⟨.struct #[⟨ "at", 3, 0, false, "", "robuststats/formula", 0⟩, ⟨ "e", 26, 1, false, "", "robuststats/formula", 8⟩], 2, 16, .agg #[.int .i64 0, .int .i64 0]⟩
  | 44 => some ⟨.struct #[⟨ "at", 3, 0, false, "", "robuststats/formula", 0⟩, ⟨ "e", 26, 1, false, "", "robuststats/formula", 8⟩], 2, 16, .agg #[.int .i64 0, .int .i64 0]⟩
  | 47 => some ⟨.pointer 49, 1, 8, .pointer none⟩
  | 48 => some ⟨.struct #[⟨ "text", 9, 0, false, "", "robuststats/robuststatsref09", 0⟩, ⟨ "at", 3, 1, false, "", "robuststats/robuststatsref09", 16⟩, ⟨ "err", 26, 2, false, "", "robuststats/robuststatsref09", 24⟩, ⟨ "place", 3, 3, false, "", "robuststats/robuststatsref09", 32⟩], 4, 40, .agg #[.string .empty, .int .i64 0, .int .i64 0, .int .i64 0]⟩
  | 49 => some ⟨.struct #[⟨ "text", 9, 0, false, "", "robuststats/robuststatsref09", 0⟩, ⟨ "at", 3, 1, false, "", "robuststats/robuststatsref09", 16⟩, ⟨ "err", 26, 2, false, "", "robuststats/robuststatsref09", 24⟩, ⟨ "place", 3, 3, false, "", "robuststats/robuststatsref09", 32⟩], 4, 40, .agg #[.string .empty, .int .i64 0, .int .i64 0, .int .i64 0]⟩
  | 55 => some ⟨.pointer 57, 1, 8, .pointer none⟩
  | 56 => some ⟨.struct #[⟨ "right", 23, 0, false, "", "robuststats/formula", 0⟩, ⟨ "at", 3, 1, false, "", "robuststats/formula", 24⟩], 2, 32, .agg #[.slice none 0 0, .int .i64 0]⟩
  | 57 => some ⟨.struct #[⟨ "right", 23, 0, false, "", "robuststats/formula", 0⟩, ⟨ "at", 3, 1, false, "", "robuststats/formula", 24⟩], 2, 32, .agg #[.slice none 0 0, .int .i64 0]⟩
  | 68 => some ⟨.array 10 9, 10, 160, .agg #[.string .empty, .string .empty, .string .empty, .string .empty, .string .empty, .string .empty, .string .empty, .string .empty, .string .empty, .string .empty]⟩
  | 71 => some ⟨.slice 9, 1, 24, .slice none 0 0⟩
  | 73 => some ⟨.slice 5, 1, 24, .slice none 0 0⟩
  | 76 => some ⟨.slice 23, 1, 24, .slice none 0 0⟩
  | 77 => some ⟨.pointer 79, 1, 8, .pointer none⟩
  | 78 => some ⟨.struct #[⟨ "addr", 77, 0, false, "", "strings", 0⟩, ⟨ "buf", 73, 1, false, "", "strings", 8⟩], 2, 32, .agg #[.pointer none, .slice none 0 0]⟩
  | 79 => some ⟨.struct #[⟨ "addr", 77, 0, false, "", "strings", 0⟩, ⟨ "buf", 73, 1, false, "", "strings", 8⟩], 2, 32, .agg #[.pointer none, .slice none 0 0]⟩
  | 88 => some ⟨.pointer 5, 1, 8, .pointer none⟩
  | 89 => some ⟨.array 24 5, 24, 24, .agg #[.int .u8 0, .int .u8 0, .int .u8 0, .int .u8 0, .int .u8 0, .int .u8 0, .int .u8 0, .int .u8 0, .int .u8 0, .int .u8 0, .int .u8 0, .int .u8 0, .int .u8 0, .int .u8 0, .int .u8 0, .int .u8 0, .int .u8 0, .int .u8 0, .int .u8 0, .int .u8 0, .int .u8 0, .int .u8 0, .int .u8 0, .int .u8 0]⟩
  | 90 => some ⟨.int .u64, 1, 8, .int .u64 0⟩
  | 99 => some ⟨.array 20 90, 20, 160, .agg #[.int .u64 0, .int .u64 0, .int .u64 0, .int .u64 0, .int .u64 0, .int .u64 0, .int .u64 0, .int .u64 0, .int .u64 0, .int .u64 0, .int .u64 0, .int .u64 0, .int .u64 0, .int .u64 0, .int .u64 0, .int .u64 0, .int .u64 0, .int .u64 0, .int .u64 0, .int .u64 0]⟩
  | 100 => some ⟨.int .u32, 1, 4, .int .u32 0⟩
  | 101 => some ⟨.array 65 5, 65, 65, .agg #[.int .u8 0, .int .u8 0, .int .u8 0, .int .u8 0, .int .u8 0, .int .u8 0, .int .u8 0, .int .u8 0, .int .u8 0, .int .u8 0, .int .u8 0, .int .u8 0, .int .u8 0, .int .u8 0, .int .u8 0, .int .u8 0, .int .u8 0, .int .u8 0, .int .u8 0, .int .u8 0, .int .u8 0, .int .u8 0, .int .u8 0, .int .u8 0, .int .u8 0, .int .u8 0, .int .u8 0, .int .u8 0, .int .u8 0, .int .u8 0, .int .u8 0, .int .u8 0, .int .u8 0, .int .u8 0, .int .u8 0, .int .u8 0, .int .u8 0, .int .u8 0, .int .u8 0, .int .u8 0, .int .u8 0, .int .u8 0, .int .u8 0, .int .u8 0, .int .u8 0, .int .u8 0, .int .u8 0, .int .u8 0, .int .u8 0, .int .u8 0, .int .u8 0, .int .u8 0, .int .u8 0, .int .u8 0, .int .u8 0, .int .u8 0, .int .u8 0, .int .u8 0, .int .u8 0, .int .u8 0, .int .u8 0, .int .u8 0, .int .u8 0, .int .u8 0, .int .u8 0]⟩
  | 103 => some ⟨.int .u64, 1, 8, .int .u64 0⟩
  | 106 => some ⟨.array 32 5, 32, 32, .agg #[.int .u8 0, .int .u8 0, .int .u8 0, .int .u8 0, .int .u8 0, .int .u8 0, .int .u8 0, .int .u8 0, .int .u8 0, .int .u8 0, .int .u8 0, .int .u8 0, .int .u8 0, .int .u8 0, .int .u8 0, .int .u8 0, .int .u8 0, .int .u8 0, .int .u8 0, .int .u8 0, .int .u8 0, .int .u8 0, .int .u8 0, .int .u8 0, .int .u8 0, .int .u8 0, .int .u8 0, .int .u8 0, .int .u8 0, .int .u8 0, .int .u8 0, .int .u8 0]⟩
  | 107 => some ⟨.array 64 5, 64, 64, .agg #[.int .u8 0, .int .u8 0, .int .u8 0, .int .u8 0, .int .u8 0, .int .u8 0, .int .u8 0, .int .u8 0, .int .u8 0, .int .u8 0, .int .u8 0, .int .u8 0, .int .u8 0, .int .u8 0, .int .u8 0, .int .u8 0, .int .u8 0, .int .u8 0, .int .u8 0, .int .u8 0, .int .u8 0, .int .u8 0, .int .u8 0, .int .u8 0, .int .u8 0, .int .u8 0, .int .u8 0, .int .u8 0, .int .u8 0, .int .u8 0, .int .u8 0, .int .u8 0, .int .u8 0, .int .u8 0, .int .u8 0, .int .u8 0, .int .u8 0, .int .u8 0, .int .u8 0, .int .u8 0, .int .u8 0, .int .u8 0, .int .u8 0, .int .u8 0, .int .u8 0, .int .u8 0, .int .u8 0, .int .u8 0, .int .u8 0, .int .u8 0, .int .u8 0, .int .u8 0, .int .u8 0, .int .u8 0, .int .u8 0, .int .u8 0, .int .u8 0, .int .u8 0, .int .u8 0, .int .u8 0, .int .u8 0, .int .u8 0, .int .u8 0, .int .u8 0]⟩
  | 110 => some ⟨.array 0 16, 0, 0, .agg #[]⟩
  | 113 => some ⟨.int .u8, 1, 1, .int .u8 0⟩
  | 114 => some ⟨.int .u8, 1, 1, .int .u8 0⟩
  | 116 => some ⟨.int .i32, 1, 4, .int .i32 0⟩
  | 117 => some ⟨.int .i32, 1, 4, .int .i32 0⟩
  | _ => none
theorem ty2 : tyOf Tryd.prog 2 = some ⟨.int .i64, 1, 8, .int .i64 0⟩ := by kernel_rfl
theorem ty3 : tyOf Tryd.prog 3 = some ⟨.int .i64, 1, 8, .int .i64 0⟩ := by kernel_rfl
theorem ty4 : tyOf Tryd.prog 4 = some ⟨.bool, 1, 1, .bool false⟩ := by kernel_rfl
theorem ty5 : tyOf Tryd.prog 5 = some ⟨.int .u8, 1, 1, .int .u8 0⟩ := by kernel_rfl
theorem ty6 : tyOf Tryd.prog 6 = some ⟨.int .u8, 1, 1, .int .u8 0⟩ := by kernel_rfl
theorem ty9 : tyOf Tryd.prog 9 = some ⟨.string, 1, 16, .string .empty⟩ := by kernel_rfl
theorem ty10 : tyOf Tryd.prog 10 = some ⟨.string, 1, 16, .string .empty⟩ := by kernel_rfl
theorem ty11 : tyOf Tryd.prog 11 = some ⟨.string, 1, 16, .string .empty⟩ := by kernel_rfl
theorem ty12 : tyOf Tryd.prog 12 = some ⟨.int .u64, 1, 8, .int .u64 0⟩ := by kernel_rfl
theorem ty15 : tyOf Tryd.prog 15 = some ⟨.pointer 109, 1, 8, .pointer none⟩ := by kernel_rfl
theorem ty16 : tyOf Tryd.prog 16 = some ⟨.pointer 112, 1, 8, .pointer none⟩ := by kernel_rfl
theorem ty17 : tyOf Tryd.prog 17 = some ⟨.pointer 119, 1, 8, .pointer none⟩ := by kernel_rfl
theorem ty21 : tyOf Tryd.prog 21 = some ⟨.int .i32, 1, 4, .int .i32 0⟩ := by kernel_rfl
theorem ty23 : tyOf Tryd.prog 23 = some ⟨.slice 38, 1, 24, .slice none 0 0⟩ := by kernel_rfl
theorem ty24 : tyOf Tryd.prog 24 = some ⟨.struct #[⟨ "Response", 9, 0, false, "", "", 0⟩, ⟨ "Right", 23, 1, false, "", "", 16⟩], 2, 40, .agg #[.string .empty, .slice none 0 0]⟩ := by kernel_rfl
theorem ty25 : tyOf Tryd.prog 25 = some ⟨.struct #[⟨ "Response", 9, 0, false, "", "", 0⟩, ⟨ "Right", 23, 1, false, "", "", 16⟩], 2, 40, .agg #[.string .empty, .slice none 0 0]⟩ := by kernel_rfl
theorem ty26 : tyOf Tryd.prog 26 = some ⟨.int .i64, 1, 8, .int .i64 0⟩ := by kernel_rfl
theorem ty37 : tyOf Tryd.prog 37 = some ⟨.struct #[⟨ "Op", 3, 0, false, "", "", 0⟩, ⟨ "Name", 9, 1, false, "", "", 8⟩, ⟨ "Num", 3, 2, false, "", "", 24⟩], 3, 32, .agg #[.int .i64 0, .string .empty, .int .i64 0]⟩ := by kernel_rfl
theorem ty38 : tyOf Tryd.prog 38 = some ⟨.struct #[⟨ "Op", 3, 0, false, "", "", 0⟩, ⟨ "Name", 9, 1, false, "", "", 8⟩, ⟨ "Num", 3, 2, false, "", "", 24⟩], 3, 32, .agg #[.int .i64 0, .string .empty, .int .i64 0]⟩ := by kernel_rfl
theorem ty40 : tyOf Tryd.prog 40 = some ⟨.pointer 42, 1, 8, .pointer none⟩ := by kernel_rfl
theorem ty41 : tyOf Tryd.prog 41 = some ⟨.struct #[⟨ "text", 9, 0, false, "", "robuststats/formula", 0⟩, ⟨ "from", 3, 1, false, "", "robuststats/formula", 16⟩, ⟨ "end", 3, 2, false, "", "robuststats/formula", 24⟩], 3, 32, .agg #[.string .empty, .int .i64 0, .int .i64 0]⟩ := by kernel_rfl
theorem ty42 : tyOf Tryd.prog 42 = some ⟨.struct #[⟨ "text", 9, 0, false, "", "robuststats/formula", 0⟩, ⟨ "from", 3, 1, false, "", "robuststats/formula", 16⟩, ⟨ "end", 3, 2, false, "", "robuststats/formula", 24⟩], 3, 32, .agg #[.string .empty, .int .i64 0, .int .i64 0]⟩ := by kernel_rfl
theorem ty43 : tyOf Tryd.prog 43 = some ⟨.struct #[⟨ "at", 3, 0, false, "", "robuststats/formula", 0⟩, ⟨ "e", 26, 1, false, "", "robuststats/formula", 8⟩], 2, 16, .agg #[.int .i64 0, .int .i64 0]⟩ := by kernel_rfl
theorem ty44 : tyOf Tryd.prog 44 = some ⟨.struct #[⟨ "at", 3, 0, false, "", "robuststats/formula", 0⟩, ⟨ "e", 26, 1, false, "", "robuststats/formula", 8⟩], 2, 16, .agg #[.int .i64 0, .int .i64 0]⟩ := by kernel_rfl
theorem ty47 : tyOf Tryd.prog 47 = some ⟨.pointer 49, 1, 8, .pointer none⟩ := by kernel_rfl
theorem ty48 : tyOf Tryd.prog 48 = some ⟨.struct #[⟨ "text", 9, 0, false, "", "robuststats/robuststatsref09", 0⟩, ⟨ "at", 3, 1, false, "", "robuststats/robuststatsref09", 16⟩, ⟨ "err", 26, 2, false, "", "robuststats/robuststatsref09", 24⟩, ⟨ "place", 3, 3, false, "", "robuststats/robuststatsref09", 32⟩], 4, 40, .agg #[.string .empty, .int .i64 0, .int .i64 0, .int .i64 0]⟩ := by kernel_rfl
theorem ty49 : tyOf Tryd.prog 49 = some ⟨.struct #[⟨ "text", 9, 0, false, "", "robuststats/robuststatsref09", 0⟩, ⟨ "at", 3, 1, false, "", "robuststats/robuststatsref09", 16⟩, ⟨ "err", 26, 2, false, "", "robuststats/robuststatsref09", 24⟩, ⟨ "place", 3, 3, false, "", "robuststats/robuststatsref09", 32⟩], 4, 40, .agg #[.string .empty, .int .i64 0, .int .i64 0, .int .i64 0]⟩ := by kernel_rfl
theorem ty55 : tyOf Tryd.prog 55 = some ⟨.pointer 57, 1, 8, .pointer none⟩ := by kernel_rfl
theorem ty56 : tyOf Tryd.prog 56 = some ⟨.struct #[⟨ "right", 23, 0, false, "", "robuststats/formula", 0⟩, ⟨ "at", 3, 1, false, "", "robuststats/formula", 24⟩], 2, 32, .agg #[.slice none 0 0, .int .i64 0]⟩ := by kernel_rfl
theorem ty57 : tyOf Tryd.prog 57 = some ⟨.struct #[⟨ "right", 23, 0, false, "", "robuststats/formula", 0⟩, ⟨ "at", 3, 1, false, "", "robuststats/formula", 24⟩], 2, 32, .agg #[.slice none 0 0, .int .i64 0]⟩ := by kernel_rfl
theorem ty68 : tyOf Tryd.prog 68 = some ⟨.array 10 9, 10, 160, .agg #[.string .empty, .string .empty, .string .empty, .string .empty, .string .empty, .string .empty, .string .empty, .string .empty, .string .empty, .string .empty]⟩ := by kernel_rfl
theorem ty71 : tyOf Tryd.prog 71 = some ⟨.slice 9, 1, 24, .slice none 0 0⟩ := by kernel_rfl
theorem ty73 : tyOf Tryd.prog 73 = some ⟨.slice 5, 1, 24, .slice none 0 0⟩ := by kernel_rfl
theorem ty76 : tyOf Tryd.prog 76 = some ⟨.slice 23, 1, 24, .slice none 0 0⟩ := by kernel_rfl
theorem ty77 : tyOf Tryd.prog 77 = some ⟨.pointer 79, 1, 8, .pointer none⟩ := by kernel_rfl
theorem ty78 : tyOf Tryd.prog 78 = some ⟨.struct #[⟨ "addr", 77, 0, false, "", "strings", 0⟩, ⟨ "buf", 73, 1, false, "", "strings", 8⟩], 2, 32, .agg #[.pointer none, .slice none 0 0]⟩ := by kernel_rfl
theorem ty79 : tyOf Tryd.prog 79 = some ⟨.struct #[⟨ "addr", 77, 0, false, "", "strings", 0⟩, ⟨ "buf", 73, 1, false, "", "strings", 8⟩], 2, 32, .agg #[.pointer none, .slice none 0 0]⟩ := by kernel_rfl
theorem ty88 : tyOf Tryd.prog 88 = some ⟨.pointer 5, 1, 8, .pointer none⟩ := by kernel_rfl
theorem ty89 : tyOf Tryd.prog 89 = some ⟨.array 24 5, 24, 24, .agg #[.int .u8 0, .int .u8 0, .int .u8 0, .int .u8 0, .int .u8 0, .int .u8 0, .int .u8 0, .int .u8 0, .int .u8 0, .int .u8 0, .int .u8 0, .int .u8 0, .int .u8 0, .int .u8 0, .int .u8 0, .int .u8 0, .int .u8 0, .int .u8 0, .int .u8 0, .int .u8 0, .int .u8 0, .int .u8 0, .int .u8 0, .int .u8 0]⟩ := by kernel_rfl
theorem ty90 : tyOf Tryd.prog 90 = some ⟨.int .u64, 1, 8, .int .u64 0⟩ := by kernel_rfl
theorem ty99 : tyOf Tryd.prog 99 = some ⟨.array 20 90, 20, 160, .agg #[.int .u64 0, .int .u64 0, .int .u64 0, .int .u64 0, .int .u64 0, .int .u64 0, .int .u64 0, .int .u64 0, .int .u64 0, .int .u64 0, .int .u64 0, .int .u64 0, .int .u64 0, .int .u64 0, .int .u64 0, .int .u64 0, .int .u64 0, .int .u64 0, .int .u64 0, .int .u64 0]⟩ := by kernel_rfl
theorem ty100 : tyOf Tryd.prog 100 = some ⟨.int .u32, 1, 4, .int .u32 0⟩ := by kernel_rfl
theorem ty101 : tyOf Tryd.prog 101 = some ⟨.array 65 5, 65, 65, .agg #[.int .u8 0, .int .u8 0, .int .u8 0, .int .u8 0, .int .u8 0, .int .u8 0, .int .u8 0, .int .u8 0, .int .u8 0, .int .u8 0, .int .u8 0, .int .u8 0, .int .u8 0, .int .u8 0, .int .u8 0, .int .u8 0, .int .u8 0, .int .u8 0, .int .u8 0, .int .u8 0, .int .u8 0, .int .u8 0, .int .u8 0, .int .u8 0, .int .u8 0, .int .u8 0, .int .u8 0, .int .u8 0, .int .u8 0, .int .u8 0, .int .u8 0, .int .u8 0, .int .u8 0, .int .u8 0, .int .u8 0, .int .u8 0, .int .u8 0, .int .u8 0, .int .u8 0, .int .u8 0, .int .u8 0, .int .u8 0, .int .u8 0, .int .u8 0, .int .u8 0, .int .u8 0, .int .u8 0, .int .u8 0, .int .u8 0, .int .u8 0, .int .u8 0, .int .u8 0, .int .u8 0, .int .u8 0, .int .u8 0, .int .u8 0, .int .u8 0, .int .u8 0, .int .u8 0, .int .u8 0, .int .u8 0, .int .u8 0, .int .u8 0, .int .u8 0, .int .u8 0]⟩ := by kernel_rfl
theorem ty103 : tyOf Tryd.prog 103 = some ⟨.int .u64, 1, 8, .int .u64 0⟩ := by kernel_rfl
theorem ty106 : tyOf Tryd.prog 106 = some ⟨.array 32 5, 32, 32, .agg #[.int .u8 0, .int .u8 0, .int .u8 0, .int .u8 0, .int .u8 0, .int .u8 0, .int .u8 0, .int .u8 0, .int .u8 0, .int .u8 0, .int .u8 0, .int .u8 0, .int .u8 0, .int .u8 0, .int .u8 0, .int .u8 0, .int .u8 0, .int .u8 0, .int .u8 0, .int .u8 0, .int .u8 0, .int .u8 0, .int .u8 0, .int .u8 0, .int .u8 0, .int .u8 0, .int .u8 0, .int .u8 0, .int .u8 0, .int .u8 0, .int .u8 0, .int .u8 0]⟩ := by kernel_rfl
theorem ty107 : tyOf Tryd.prog 107 = some ⟨.array 64 5, 64, 64, .agg #[.int .u8 0, .int .u8 0, .int .u8 0, .int .u8 0, .int .u8 0, .int .u8 0, .int .u8 0, .int .u8 0, .int .u8 0, .int .u8 0, .int .u8 0, .int .u8 0, .int .u8 0, .int .u8 0, .int .u8 0, .int .u8 0, .int .u8 0, .int .u8 0, .int .u8 0, .int .u8 0, .int .u8 0, .int .u8 0, .int .u8 0, .int .u8 0, .int .u8 0, .int .u8 0, .int .u8 0, .int .u8 0, .int .u8 0, .int .u8 0, .int .u8 0, .int .u8 0, .int .u8 0, .int .u8 0, .int .u8 0, .int .u8 0, .int .u8 0, .int .u8 0, .int .u8 0, .int .u8 0, .int .u8 0, .int .u8 0, .int .u8 0, .int .u8 0, .int .u8 0, .int .u8 0, .int .u8 0, .int .u8 0, .int .u8 0, .int .u8 0, .int .u8 0, .int .u8 0, .int .u8 0, .int .u8 0, .int .u8 0, .int .u8 0, .int .u8 0, .int .u8 0, .int .u8 0, .int .u8 0, .int .u8 0, .int .u8 0, .int .u8 0, .int .u8 0]⟩ := by kernel_rfl
theorem ty110 : tyOf Tryd.prog 110 = some ⟨.array 0 16, 0, 0, .agg #[]⟩ := by kernel_rfl
theorem ty113 : tyOf Tryd.prog 113 = some ⟨.int .u8, 1, 1, .int .u8 0⟩ := by kernel_rfl
theorem ty114 : tyOf Tryd.prog 114 = some ⟨.int .u8, 1, 1, .int .u8 0⟩ := by kernel_rfl
theorem ty116 : tyOf Tryd.prog 116 = some ⟨.int .i32, 1, 4, .int .i32 0⟩ := by kernel_rfl
theorem ty117 : tyOf Tryd.prog 117 = some ⟨.int .i32, 1, 4, .int .i32 0⟩ := by kernel_rfl
theorem tab : TabOk Tryd.prog T := by
  intro t d h
  unfold T at h
  split at h
  · cases h; exact TyOk.of ty2
  · cases h; exact TyOk.of ty3
  · cases h; exact TyOk.of ty4
  · cases h; exact TyOk.of ty5
  · cases h; exact TyOk.of ty6
  · cases h; exact TyOk.of ty9
  · cases h; exact TyOk.of ty10
  · cases h; exact TyOk.of ty11
  · cases h; exact TyOk.of ty12
  · cases h; exact TyOk.of ty15
  · cases h; exact TyOk.of ty16
  · cases h; exact TyOk.of ty17
  · cases h; exact TyOk.of ty21
  · cases h; exact TyOk.of ty23
  · cases h; exact TyOk.of ty24
  · cases h; exact TyOk.of ty25
  · cases h; exact TyOk.of ty26
  · cases h; exact TyOk.of ty37
  · cases h; exact TyOk.of ty38
  · cases h; exact TyOk.of ty40
  · cases h; exact TyOk.of ty41
  · cases h; exact TyOk.of ty42
  · cases h; exact TyOk.of ty43
  · cases h; exact TyOk.of ty44
  · cases h; exact TyOk.of ty47
  · cases h; exact TyOk.of ty48
  · cases h; exact TyOk.of ty49
  · cases h; exact TyOk.of ty55
  · cases h; exact TyOk.of ty56
  · cases h; exact TyOk.of ty57
  · cases h; exact TyOk.of ty68
  · cases h; exact TyOk.of ty71
  · cases h; exact TyOk.of ty73
  · cases h; exact TyOk.of ty76
  · cases h; exact TyOk.of ty77
  · cases h; exact TyOk.of ty78
  · cases h; exact TyOk.of ty79
  · cases h; exact TyOk.of ty88
  · cases h; exact TyOk.of ty89
  · cases h; exact TyOk.of ty90
  · cases h; exact TyOk.of ty99
  · cases h; exact TyOk.of ty100
  · cases h; exact TyOk.of ty101
  · cases h; exact TyOk.of ty103
  · cases h; exact TyOk.of ty106
  · cases h; exact TyOk.of ty107
  · cases h; exact TyOk.of ty110
  · cases h; exact TyOk.of ty113
  · cases h; exact TyOk.of ty114
  · cases h; exact TyOk.of ty116
  · cases h; exact TyOk.of ty117
  · cases h
theorem mixed : Tryd.prog.follows .mixedOrders = true := by kernel_rfl
section
variable {X : Ctx} {Q : Exit → St → Prop} {s : St} {ops : List Oper}
theorem rgK (id n : Nat) (ks : List Nat) (h : awpR false X ops.toArray (ops.take n) (ops.drop n) Q (s.kills ks)) (hm : X.P.follows .mixedOrders = true := by exact mixed) (hok : ordOk false ops.toArray n = true := by kernel_rfl) (hak : allocKeys ops.toArray = ks := by kernel_rfl) (hK : (ks.all fun k => !(X.K.contains k)) = true := by kernel_rfl) : awp X (.region id ops.toArray true) Q s := awp_regE id n ks hm hok hak hK h
theorem rgX (id n : Nat) (ks : List Nat) (h : awpR true X ops.toArray (ops.take n) (ops.drop n) Q (s.kills ks)) (hm : X.P.follows .mixedOrders = true := by exact mixed) (hok : ordOk true ops.toArray n = true := by kernel_rfl) (hak : allocKeys ops.toArray = ks := by kernel_rfl) (hK : (ks.all fun k => !(X.K.contains k)) = true := by kernel_rfl) : awp X (.region id ops.toArray true) Q s := awp_regE id n ks hm hok hak hK h
theorem rg (id n : Nat) (h : awpR false X ops.toArray (ops.take n) (ops.drop n) Q s) (hm : X.P.follows .mixedOrders = true := by exact mixed) (hok : ordOk false ops.toArray n = true := by kernel_rfl) (hak : allocKeys ops.toArray = [] := by kernel_rfl) : awp X (.region id ops.toArray true) Q s := awp_reg id n hm hok hak h
end
end Go.Proofs.YtfnonogemgnlhaaDoor

/-
  The grammar of formulas, on a text's bytes: words, places, and what is read from a place on. Conditions: none.
-/
namespace Go.Vw

def isLet (c : UInt8) : Bool := (97 ≤ c && c ≤ 122) || (65 ≤ c && c ≤ 90)
def isDig (c : UInt8) : Bool := 48 ≤ c && c ≤ 57
def isInn (c : UInt8) : Bool := isLet c || isDig c || c == 95 || c == 46
def runE (p : UInt8 → Bool) (t : List UInt8) (i : Nat) : Nat := i + ((t.drop i).takeWhile p).length
def isBl (c : UInt8) : Bool := c == 32
abbrev skp (t : List UInt8) (i : Nat) : Nat := runE isBl t i
def wend (t : List UInt8) (i : Nat) : Nat := if i < t.length then (if isLet (t.getD i 0) then runE isInn t i else if isDig (t.getD i 0) then runE isDig t i else i + 1) else t.length
def word (t : List UInt8) (i : Nat) : List UInt8 := (t.drop i).take (wend t i - i)
def nxt (t : List UInt8) (i : Nat) : Nat := skp t (wend t i)

theorem runE_ge (p : UInt8 → Bool) (t : List UInt8) (i : Nat) : i ≤ runE p t i := Nat.le_add_right _ _
theorem takeWhile_len {p : UInt8 → Bool} : ∀ l : List UInt8, (l.takeWhile p).length ≤ l.length
  | [] => Nat.le_refl _
  | x :: xs => by
    simp only [List.takeWhile]
    split
    · have := takeWhile_len (p := p) xs; simp; omega
    · simp
theorem runE_le (p : UInt8 → Bool) {t : List UInt8} {i : Nat} (h : i ≤ t.length) : runE p t i ≤ t.length := by
  have := takeWhile_len (p := p) (t.drop i)
  unfold runE; simp at this; omega
theorem runE_stop (p : UInt8 → Bool) {t : List UInt8} {i : Nat} (h : runE p t i < t.length) : p (t.getD (runE p t i) 0) = false := by
  have key : ∀ l : List UInt8, (l.takeWhile p).length < l.length → p (l.getD (l.takeWhile p).length 0) = false := by
    intro l
    induction l with
    | nil => intro h; simp at h
    | cons x xs ih =>
      simp only [List.takeWhile]
      cases hp : p x with
      | true => intro h; simp only [List.length_cons] at h ⊢; simpa using ih (by omega)
      | false => intro _; simpa using hp
  have := key (t.drop i) (by unfold runE at h; simp; omega)
  unfold runE
  simpa [List.getD_eq_getElem?_getD, List.getElem?_drop] using this
theorem runE_in (p : UInt8 → Bool) {t : List UInt8} {i j : Nat} (h1 : i ≤ j) (h2 : j < runE p t i) : p (t.getD j 0) = true := by
  have key : ∀ (l : List UInt8) j, j < (l.takeWhile p).length → p (l.getD j 0) = true := by
    intro l
    induction l with
    | nil => intro j h; simp at h
    | cons x xs ih =>
      intro j
      simp only [List.takeWhile]
      cases hp : p x with
      | true =>
        intro h
        cases j with
        | zero => simpa using hp
        | succ j => simpa using ih j (by simpa using h)
      | false => intro h; simp at h
  have := key (t.drop i) (j - i) (by unfold runE at h2; omega)
  simpa [List.getD_eq_getElem?_getD, List.getElem?_drop, show i + (j - i) = j by omega] using this
theorem runE_eq {p : UInt8 → Bool} {t : List UInt8} {i j : Nat} (h1 : i ≤ j) (h2 : j ≤ t.length) (h3 : ∀ k, i ≤ k → k < j → p (t.getD k 0) = true) (h4 : j < t.length → p (t.getD j 0) = false) : runE p t i = j := by
  have a := runE_ge p t i
  rcases Nat.lt_trichotomy (runE p t i) j with h | h | h
  · have := runE_stop p (t := t) (i := i) (by omega)
    rw [h3 _ a h] at this; cases this
  · exact h
  · have b := runE_in p (t := t) (i := i) h1 h
    have c := runE_le p (t := t) (i := i) (by omega)
    rw [h4 (by omega)] at b; cases b
theorem runE_step {p : UInt8 → Bool} {t : List UInt8} {i : Nat} (h : i < t.length) (hp : p (t.getD i 0) = true) : runE p t (i + 1) = runE p t i := by
  refine (runE_eq (Nat.le_of_lt_succ ?_) (runE_le p (by omega)) (fun k h1 h2 => ?_) (fun h1 => runE_stop p h1)).symm
  · exact Nat.lt_succ_of_le (Nat.le_trans (Nat.le_succ _) (runE_ge p t (i + 1)))
  · by_cases e : k = i
    · subst e; exact hp
    · exact runE_in p (by omega) h2
theorem runE_self {p : UInt8 → Bool} {t : List UInt8} {i : Nat} (h : i ≤ t.length) (hp : i < t.length → p (t.getD i 0) = false) : runE p t i = i := runE_eq (Nat.le_refl _) h (fun k _ _ => by omega) hp
theorem runE_idem {p : UInt8 → Bool} {t : List UInt8} {i : Nat} (h : i ≤ t.length) : runE p t (runE p t i) = runE p t i := runE_self (runE_le p h) (fun h => runE_stop p h)
theorem isLet_inn {c : UInt8} (h : isLet c = true) : isInn c = true := by unfold isInn; simp [h]
theorem wend_gt {t : List UInt8} {i : Nat} (h : i < t.length) : i < wend t i := by
  unfold wend
  rw [if_pos h]
  split
  · rename_i hl
    have := runE_ge isInn t (i + 1)
    rw [runE_step h (isLet_inn hl)] at this; omega
  · split
    · rename_i hd
      have := runE_ge isDig t (i + 1)
      rw [runE_step h hd] at this; omega
    · omega
theorem wend_le (t : List UInt8) (i : Nat) : wend t i ≤ t.length := by
  unfold wend
  split
  · split
    · exact runE_le _ (by omega)
    · split
      · exact runE_le _ (by omega)
      · omega
  · omega
theorem nxt_le (t : List UInt8) (i : Nat) : nxt t i ≤ t.length := runE_le _ (wend_le t i)
theorem nxt_gt {t : List UInt8} {i : Nat} (h : i < t.length) : i < nxt t i := Nat.lt_of_lt_of_le (wend_gt h) (runE_ge _ _ _)
theorem nxt_ge {t : List UInt8} {i : Nat} (h : i ≤ t.length) : i ≤ nxt t i := by
  by_cases e : i < t.length
  · exact Nat.le_of_lt (nxt_gt e)
  · have : wend t i = t.length := by unfold wend; rw [if_neg e]
    unfold nxt; rw [this]; have := runE_ge isBl t t.length; unfold skp; omega
theorem skp_nxt (t : List UInt8) (i : Nat) : skp t (nxt t i) = nxt t i := runE_idem (wend_le t i)

end Go.Vw

/-
  What is read from a place on: the relation, where it leads, and that it always leads somewhere. Conditions: none.
-/
namespace Go.Vw

abbrev Nd : Type := Int × List UInt8 × Int
abbrev PErr : Type := Nat × Int
abbrev Pos (α : Type) : Type := Except PErr (α × Nat)
def pwB : List UInt8 := [112, 111, 119, 101, 114]
def isName (s : List UInt8) : Bool := 1 ≤ s.length && s.length ≤ 32 && isLet (s.getD 0 0) && !(s == pwB) && s.all isInn

def mustP (t : List UInt8) (c : UInt8) (i : Nat) : Except PErr Nat := if word t i = [c] then .ok (nxt t i) else .error (i, 3)
def nameP (t : List UInt8) (i : Nat) : Pos (List UInt8) := if isName (word t i) then .ok (word t i, nxt t i) else .error (i, 3)
def digP (t : List UInt8) (i : Nat) : Option Nat := if (word t i).length = 1 ∧ isDig ((word t i).getD 0 0) = true then some (((word t i).getD 0 0).toNat - 48) else none
def numP (t : List UInt8) (lo hi : Nat) (i : Nat) : Pos Nat := match digP t i with
  | none => .error (i, 3)
  | some n => if lo ≤ n ∧ n ≤ hi then .ok (n, nxt t i) else .error (i, 1)
def powP (t : List UInt8) (i : Nat) : Pos (List Nd) :=
  match mustP t 40 i with
  | .error x => .error x
  | .ok i1 => match nameP t i1 with
    | .error x => .error x
    | .ok (s, i2) => match mustP t 44 i2 with
      | .error x => .error x
      | .ok i3 => match numP t 2 8 i3 with
        | .error x => .error x
        | .ok (n, i4) => match mustP t 41 i4 with
          | .error x => .error x
          | .ok i5 => .ok ([((2 : Int), s, (n : Int))], i5)
def varP (t : List UInt8) (i : Nat) : Pos (List Nd) := match nameP t i with
  | .error x => .error x
  | .ok (s, j) => .ok ([((1 : Int), s, (0 : Int))], j)
def atomP (t : List UInt8) (i : Nat) : Pos (List Nd) :=
  if word t i = [48] then .ok ([((4 : Int), [], (0 : Int))], nxt t i)
  else if word t i = [49] then .ok ([((3 : Int), [], (0 : Int))], nxt t i)
  else if word t i = pwB then powP t (nxt t i)
  else varP t i
def opOf (r : Nat) (w : List UInt8) : Option Int :=
  if r = 0 then (if w = [43] then some 5 else if w = [45] then some 6 else none)
  else if r = 1 then (if w = [42] then some 8 else if w = [47] then some 9 else none)
  else (if w = [58] then some 7 else none)

inductive Kd where
  | lev (r : Nat)
  | bin (r : Nat) (e : List Nd)
  | pri
  | rai (e : List Nd)

inductive Rs (t : List UInt8) : Kd → Nat → Pos (List Nd) → Prop where
  | levE {r i x} (h : r < 3) (h1 : Rs t (.lev (r + 1)) i (.error x)) : Rs t (.lev r) i (.error x)
  | levO {r i e j o} (h : r < 3) (h1 : Rs t (.lev (r + 1)) i (.ok (e, j))) (h2 : Rs t (.bin r e) j o) : Rs t (.lev r) i o
  | raiE {i x} (h1 : Rs t .pri i (.error x)) : Rs t (.lev 3) i (.error x)
  | raiO {i e j o} (h1 : Rs t .pri i (.ok (e, j))) (h2 : Rs t (.rai e) j o) : Rs t (.lev 3) i o
  | bin0 {r e i} (h : opOf r (word t i) = none) : Rs t (.bin r e) i (.ok (e, i))
  | binE {r e i op x} (h : opOf r (word t i) = some op) (h1 : Rs t (.lev (r + 1)) (nxt t i) (.error x)) : Rs t (.bin r e) i (.error x)
  | binO {r e i op e' j o} (h : opOf r (word t i) = some op) (h1 : Rs t (.lev (r + 1)) (nxt t i) (.ok (e', j))) (h2 : Rs t (.bin r ((op, [], (0 : Int)) :: (e ++ e'))) j o) : Rs t (.bin r e) i o
  | rai0 {e i} (h : word t i ≠ [94]) : Rs t (.rai e) i (.ok (e, i))
  | raiX {e i x} (h : word t i = [94]) (h1 : numP t 1 6 (nxt t i) = .error x) : Rs t (.rai e) i (.error x)
  | raiN {e i n j o} (h : word t i = [94]) (h1 : numP t 1 6 (nxt t i) = .ok (n, j)) (h2 : Rs t (.rai (((10 : Int), [], (n : Int)) :: e)) j o) : Rs t (.rai e) i o
  | atom {i} (h : word t i ≠ [40]) : Rs t .pri i (atomP t i)
  | brE {i x} (h : word t i = [40]) (h1 : Rs t (.lev 0) (nxt t i) (.error x)) : Rs t .pri i (.error x)
  | brX {i e j x} (h : word t i = [40]) (h1 : Rs t (.lev 0) (nxt t i) (.ok (e, j))) (h2 : mustP t 41 j = .error x) : Rs t .pri i (.error x)
  | brO {i e j k} (h : word t i = [40]) (h1 : Rs t (.lev 0) (nxt t i) (.ok (e, j))) (h2 : mustP t 41 j = .ok k) : Rs t .pri i (.ok (e, k))

structure At (t : List UInt8) (i : Nat) : Prop where
  le : i ≤ t.length
  skp : skp t i = i
theorem at_nxt (t : List UInt8) (i : Nat) : At t (nxt t i) := ⟨nxt_le t i, skp_nxt t i⟩
theorem word_nil {t : List UInt8} {i : Nat} (h : i ≤ t.length) : word t i = [] ↔ i = t.length := by
  constructor
  · intro e
    by_cases hi : i < t.length
    · have h1 := wend_gt hi
      have h2 := wend_le t i
      have := congrArg List.length e
      unfold word at this
      simp at this; omega
    · omega
  · intro e; subst e; unfold word; simp
theorem lt_of_word {t : List UInt8} {i : Nat} (h : word t i ≠ []) : i < t.length := by
  by_cases e : i < t.length
  · exact e
  · exfalso; apply h; unfold word; rw [List.drop_eq_nil_of_le (by omega)]; simp

theorem mustP_ok {t : List UInt8} {c : UInt8} {i j : Nat} (h : mustP t c i = .ok j) : At t j ∧ i < j ∧ j = nxt t i ∧ word t i = [c] := by
  unfold mustP at h
  split at h
  · rename_i hw; cases h; exact ⟨at_nxt t i, nxt_gt (lt_of_word (by rw [hw]; simp)), rfl, hw⟩
  · cases h
theorem mustP_er {t : List UInt8} {c : UInt8} {i : Nat} {x : PErr} (h : mustP t c i = .error x) : x = (i, 3) ∧ word t i ≠ [c] := by
  unfold mustP at h
  split at h
  · cases h
  · rename_i hw; cases h; exact ⟨rfl, hw⟩
theorem isName_ne {s : List UInt8} (h : isName s = true) : s ≠ [] := fun e => by subst e; revert h; decide
theorem nameP_ok {t : List UInt8} {i j : Nat} {s : List UInt8} (h : nameP t i = .ok (s, j)) : At t j ∧ i < j ∧ j = nxt t i ∧ s = word t i ∧ isName s = true := by
  unfold nameP at h
  split at h
  · rename_i hw; cases h; exact ⟨at_nxt t i, nxt_gt (lt_of_word (isName_ne hw)), rfl, rfl, hw⟩
  · cases h
theorem nameP_er {t : List UInt8} {i : Nat} {x : PErr} (h : nameP t i = .error x) : x = (i, 3) ∧ isName (word t i) = false := by
  unfold nameP at h
  split at h
  · cases h
  · rename_i hw; cases h; exact ⟨rfl, by simpa using hw⟩
theorem digP_lt {t : List UInt8} {i n : Nat} (h : digP t i = some n) : i < t.length ∧ n ≤ 9 := by
  unfold digP at h
  split at h
  · rename_i hw
    cases h
    refine ⟨lt_of_word fun e => by rw [e] at hw; simp at hw, ?_⟩
    have := hw.2
    simp only [isDig, Bool.and_eq_true, decide_eq_true_eq] at this
    have h2 := UInt8.le_iff_toNat_le.1 this.2
    simp at h2 ⊢; omega
  · cases h
theorem numP_ok {t : List UInt8} {lo hi i n j : Nat} (h : numP t lo hi i = .ok (n, j)) : At t j ∧ i < j ∧ j = nxt t i ∧ lo ≤ n ∧ n ≤ hi ∧ digP t i = some n := by
  unfold numP at h
  split at h
  · cases h
  · rename_i m hm
    split at h
    · cases h; exact ⟨at_nxt t i, nxt_gt (digP_lt hm).1, rfl, by omega, by omega, hm⟩
    · cases h
theorem numP_er {t : List UInt8} {lo hi i : Nat} {x : PErr} (h : numP t lo hi i = .error x) : x = (i, 3) ∨ x = (i, 1) := by
  unfold numP at h
  split at h
  · cases h; exact .inl rfl
  · split at h
    · cases h
    · cases h; exact .inr rfl

def ErrIn (t : List UInt8) (i : Nat) (x : PErr) : Prop := i ≤ x.1 ∧ x.1 ≤ t.length ∧ skp t x.1 = x.1 ∧ (x.2 = 3 ∨ x.2 = 1)
theorem ErrIn.mono {t : List UInt8} {i j : Nat} {x : PErr} (h : ErrIn t j x) (hij : i ≤ j) : ErrIn t i x := ⟨Nat.le_trans hij h.1, h.2⟩
theorem At.err {t : List UInt8} {i : Nat} (h : At t i) {n : Int} (hn : n = 3 ∨ n = 1) : ErrIn t i (i, n) := ⟨Nat.le_refl _, h.le, h.skp, hn⟩

theorem powP_ok {t : List UInt8} {i j : Nat} {e : List Nd} (h : powP t i = .ok (e, j)) : At t j ∧ i < j ∧ e.length = 1 ∧ ∃ s, ∃ n : Nat, e = [((2 : Int), s, (n : Int))] ∧ isName s = true ∧ 2 ≤ n ∧ n ≤ 8 := by
  unfold powP at h
  repeat' split at h
  all_goals first | (cases h; done) | skip
  rename_i _ i1 h1 _ s i2 h2 _ i3 h3 _ n i4 h4 _ i5 h5
  cases h
  have a1 := mustP_ok h1
  have a2 := nameP_ok h2
  have a3 := mustP_ok h3
  have a4 := numP_ok h4
  have a5 := mustP_ok h5
  exact ⟨a5.1, by omega, rfl, s, n, rfl, a2.2.2.2.2, a4.2.2.2.1, a4.2.2.2.2.1⟩
theorem powP_er {t : List UInt8} {i : Nat} {x : PErr} (hi : At t i) (h : powP t i = .error x) : ErrIn t i x := by
  unfold powP at h
  split at h
  · rename_i h1; cases h; rw [(mustP_er h1).1]; exact hi.err (.inl rfl)
  · rename_i i1 h1
    have a1 := mustP_ok h1
    split at h
    · rename_i h2; cases h; rw [(nameP_er h2).1]; exact (a1.1.err (.inl rfl)).mono (by omega)
    · rename_i s i2 h2
      have a2 := nameP_ok h2
      split at h
      · rename_i h3; cases h; rw [(mustP_er h3).1]; exact (a2.1.err (.inl rfl)).mono (by omega)
      · rename_i i3 h3
        have a3 := mustP_ok h3
        split at h
        · rename_i h4; cases h
          rcases numP_er h4 with e | e <;> rw [e] <;> exact (a3.1.err (by simp)).mono (by omega)
        · rename_i n i4 h4
          have a4 := numP_ok h4
          split at h
          · rename_i h5; cases h; rw [(mustP_er h5).1]; exact (a4.1.err (.inl rfl)).mono (by omega)
          · cases h
theorem atomP_ok {t : List UInt8} {i j : Nat} {e : List Nd} (h : atomP t i = .ok (e, j)) : At t j ∧ i < j ∧ e.length = 1 := by
  unfold atomP at h
  split at h
  · rename_i hw; cases h; exact ⟨at_nxt t i, nxt_gt (lt_of_word (by rw [hw]; simp)), rfl⟩
  · split at h
    · rename_i hw; cases h; exact ⟨at_nxt t i, nxt_gt (lt_of_word (by rw [hw]; simp)), rfl⟩
    · split at h
      · rename_i hw
        have := powP_ok h
        have h2 := nxt_gt (lt_of_word (t := t) (i := i) (by rw [hw]; decide))
        exact ⟨this.1, by omega, this.2.2.1⟩
      · unfold varP at h
        split at h
        · cases h
        · rename_i s k hk; cases h
          have := nameP_ok hk
          exact ⟨this.1, this.2.1, rfl⟩
theorem atomP_er {t : List UInt8} {i : Nat} {x : PErr} (hi : At t i) (h : atomP t i = .error x) : ErrIn t i x := by
  unfold atomP at h
  split at h
  · cases h
  · split at h
    · cases h
    · split at h
      · exact (powP_er (at_nxt t i) h).mono (nxt_ge hi.le)
      · unfold varP at h
        split at h
        · rename_i hk; cases h; rw [(nameP_er hk).1]; exact hi.err (.inl rfl)
        · cases h

def Kd.pre : Kd → Nat
  | .bin _ e => e.length
  | .rai e => e.length
  | _ => 0
def Kd.cons : Kd → Bool
  | .lev _ => true
  | .pri => true
  | _ => false
theorem opOf_nil (r : Nat) : opOf r [] = none := by
  unfold opOf
  split
  · rfl
  · split <;> rfl
theorem opOf_lt {t : List UInt8} {r i : Nat} {op : Int} (h : opOf r (word t i) = some op) : i < t.length := lt_of_word fun e => by
  rw [e, opOf_nil] at h; cases h

def Goes (t : List UInt8) (k : Kd) (i : Nat) : Pos (List Nd) → Prop
  | .error x => ErrIn t i x
  | .ok (e, j) => At t j ∧ i ≤ j ∧ e.length ≤ k.pre + (j - i) ∧ k.pre ≤ e.length ∧ (k.cons = true → i < j ∧ 1 ≤ e.length)
theorem Rs.goes {t : List UInt8} {k : Kd} {i : Nat} {o : Pos (List Nd)} (h : Rs t k i o) : At t i → Goes t k i o := by
  induction h with
  | levE h h1 ih => exact fun hi => ih hi
  | raiE h1 ih => exact fun hi => ih hi
  | @levO r i e j o h h1 h2 ih1 ih2 =>
    intro hi
    obtain ⟨a1, a2, a3, a4, a5⟩ := ih1 hi
    have b := ih2 a1
    cases o with
    | error x => exact b.mono a2
    | ok p =>
      obtain ⟨e2, k⟩ := p
      obtain ⟨b1, b2, b3, b4, b5⟩ := b
      have a5 := a5 rfl
      simp only [Kd.pre] at a3 b3 b4
      exact ⟨b1, by omega, by simp only [Kd.pre]; omega, by simp only [Kd.pre]; omega, fun _ => by omega⟩
  | @raiO i e j o h1 h2 ih1 ih2 =>
    intro hi
    obtain ⟨a1, a2, a3, a4, a5⟩ := ih1 hi
    have b := ih2 a1
    cases o with
    | error x => exact b.mono a2
    | ok p =>
      obtain ⟨e2, k⟩ := p
      obtain ⟨b1, b2, b3, b4, b5⟩ := b
      have a5 := a5 rfl
      simp only [Kd.pre] at a3 b3 b4
      exact ⟨b1, by omega, by simp only [Kd.pre]; omega, by simp only [Kd.pre]; omega, fun _ => by omega⟩
  | bin0 h => exact fun hi => ⟨hi, Nat.le_refl _, by simp [Kd.pre], by simp [Kd.pre], fun h => by cases h⟩
  | rai0 h => exact fun hi => ⟨hi, Nat.le_refl _, by simp [Kd.pre], by simp [Kd.pre], fun h => by cases h⟩
  | @binE r e i op x h h1 ih =>
    exact fun hi => (ih (at_nxt t i)).mono (nxt_ge hi.le)
  | @binO r e i op e' j o h h1 h2 ih1 ih2 =>
    intro hi
    have h0 := nxt_gt (opOf_lt h)
    obtain ⟨a1, a2, a3, a4, a5⟩ := ih1 (at_nxt t i)
    have b := ih2 a1
    cases o with
    | error x => exact b.mono (by omega)
    | ok p =>
      obtain ⟨e2, k⟩ := p
      obtain ⟨b1, b2, b3, b4, b5⟩ := b
      simp only [Kd.pre, List.length_cons, List.length_append] at a3 b3 b4
      exact ⟨b1, by omega, by simp only [Kd.pre]; omega, by simp only [Kd.pre]; omega, fun h => by cases h⟩
  | @raiX e i x h h1 =>
    intro hi
    rcases numP_er h1 with q | q <;> subst q <;> exact ((at_nxt t i).err (by simp)).mono (nxt_ge hi.le)
  | @raiN e i n j o h h1 h2 ih =>
    intro hi
    have h0 := nxt_gt (lt_of_word (t := t) (i := i) (by rw [h]; simp))
    have a := numP_ok h1
    have b := ih a.1
    cases o with
    | error x => exact b.mono (by omega)
    | ok p =>
      obtain ⟨e2, k⟩ := p
      obtain ⟨b1, b2, b3, b4, b5⟩ := b
      simp only [Kd.pre, List.length_cons] at b3 b4
      exact ⟨b1, by omega, by simp only [Kd.pre]; omega, by simp only [Kd.pre]; omega, fun h => by cases h⟩
  | @atom i h =>
    intro hi
    cases ha : atomP t i with
    | error x => exact atomP_er hi ha
    | ok p =>
      obtain ⟨e, j⟩ := p
      have := atomP_ok ha
      exact ⟨this.1, by omega, by simp only [Kd.pre]; omega, by simp [Kd.pre], fun _ => by omega⟩
  | @brE i x h h1 ih => exact fun hi => (ih (at_nxt t i)).mono (nxt_ge hi.le)
  | @brX i e j x h h1 h2 ih =>
    intro hi
    obtain ⟨a1, a2, a3, a4, a5⟩ := ih (at_nxt t i)
    have := (mustP_er h2).1
    subst this
    exact (a1.err (.inl rfl)).mono (Nat.le_trans (nxt_ge hi.le) a2)
  | @brO i e j k h h1 h2 ih =>
    intro hi
    obtain ⟨a1, a2, a3, a4, a5⟩ := ih (at_nxt t i)
    have b := mustP_ok h2
    have c := nxt_ge (t := t) hi.le
    have a5 := a5 rfl
    simp only [Kd.pre] at a3
    exact ⟨b.1, by omega, by simp only [Kd.pre]; omega, by simp only [Kd.pre]; omega, fun _ => by omega⟩

def Kd.rank : Kd → Nat
  | .lev r => 5 - min r 4
  | .bin _ _ => 0
  | .pri => 1
  | .rai _ => 0
def Kd.ok : Kd → Prop
  | .lev r => r ≤ 3
  | .bin r _ => r < 3
  | _ => True
theorem Rs.ex (t : List UInt8) : ∀ (n : Nat) (k : Kd) (i : Nat), 6 * (t.length - i) + k.rank ≤ n → k.ok → At t i → ∃ o, Rs t k i o := by
  intro n
  induction n using Nat.strongRecOn with
  | _ n ih =>
    intro k i hn hk hi
    have hb : ∀ (r : Nat) (e : List Nd) (m : Nat), m + 1 ≤ n → 6 * (t.length - i) ≤ m → True := fun _ _ _ _ _ => trivial
    cases k with
    | lev r =>
      simp only [Kd.ok] at hk
      by_cases h3 : r = 3
      · subst h3
        simp only [Kd.rank] at hn
        obtain ⟨o, ho⟩ := ih (n - 1) (by omega) .pri i (by simp only [Kd.rank]; omega) trivial hi
        cases o with
        | error x => exact ⟨_, .raiE ho⟩
        | ok p =>
          obtain ⟨e, j⟩ := p
          obtain ⟨a1, a2, _, _, a5⟩ := ho.goes hi
          have a5 := a5 rfl
          have := hi.le
          obtain ⟨o2, ho2⟩ := ih (n - 1) (by omega) (.rai e) j (by simp only [Kd.rank]; have := a1.le; omega) trivial a1
          exact ⟨_, .raiO ho ho2⟩
      · simp only [Kd.rank] at hn
        obtain ⟨o, ho⟩ := ih (n - 1) (by omega) (.lev (r + 1)) i (by simp only [Kd.rank]; omega) (by simp only [Kd.ok]; omega) hi
        cases o with
        | error x => exact ⟨_, .levE (by omega) ho⟩
        | ok p =>
          obtain ⟨e, j⟩ := p
          obtain ⟨a1, a2, _, _, a5⟩ := ho.goes hi
          have a5 := a5 rfl
          have := hi.le
          obtain ⟨o2, ho2⟩ := ih (n - 1) (by omega) (.bin r e) j (by simp only [Kd.rank]; have := a1.le; omega) (by simp only [Kd.ok]; omega) a1
          exact ⟨_, .levO (by omega) ho ho2⟩
    | bin r e =>
      simp only [Kd.ok] at hk
      cases hop : opOf r (word t i) with
      | none => exact ⟨_, .bin0 hop⟩
      | some op =>
        have hlt := opOf_lt hop
        have h0 := nxt_gt hlt
        have h1 := nxt_le t i
        simp only [Kd.rank] at hn
        obtain ⟨o, ho⟩ := ih (n - 1) (by omega) (.lev (r + 1)) (nxt t i) (by simp only [Kd.rank]; omega) (by simp only [Kd.ok]; omega) (at_nxt t i)
        cases o with
        | error x => exact ⟨_, .binE hop ho⟩
        | ok p =>
          obtain ⟨e2, j⟩ := p
          obtain ⟨a1, a2, _, _, a5⟩ := ho.goes (at_nxt t i)
          obtain ⟨o2, ho2⟩ := ih (n - 1) (by omega) (.bin r ((op, [], 0) :: (e ++ e2))) j (by simp only [Kd.rank]; have := a1.le; omega) hk a1
          exact ⟨_, .binO hop ho ho2⟩
    | pri =>
      simp only [Kd.rank] at hn
      by_cases hw : word t i = [40]
      · have hlt := lt_of_word (t := t) (i := i) (by rw [hw]; simp)
        have h0 := nxt_gt hlt
        have h1 := nxt_le t i
        obtain ⟨o, ho⟩ := ih (n - 1) (by omega) (.lev 0) (nxt t i) (by simp only [Kd.rank]; omega) (by simp only [Kd.ok]; omega) (at_nxt t i)
        cases o with
        | error x => exact ⟨_, .brE hw ho⟩
        | ok p =>
          obtain ⟨e, j⟩ := p
          cases hm : mustP t 41 j with
          | error x => exact ⟨_, .brX hw ho hm⟩
          | ok k => exact ⟨_, .brO hw ho hm⟩
      · exact ⟨_, .atom hw⟩
    | rai e =>
      simp only [Kd.rank] at hn
      by_cases hw : word t i = [94]
      · have hlt := lt_of_word (t := t) (i := i) (by rw [hw]; simp)
        have h0 := nxt_gt hlt
        cases hm : numP t 1 6 (nxt t i) with
        | error x => exact ⟨_, .raiX hw hm⟩
        | ok p =>
          obtain ⟨m, j⟩ := p
          have a := numP_ok hm
          have a1 := a.1.le
          obtain ⟨o2, ho2⟩ := ih (n - 1) (by omega) (.rai ((10, [], (m : Int)) :: e)) j (by simp only [Kd.rank]; omega) trivial a.1
          exact ⟨_, .raiN hw hm ho2⟩
      · exact ⟨_, .rai0 hw⟩
theorem Rs.all {t : List UInt8} {k : Kd} {i : Nat} (hk : k.ok) (hi : At t i) : ∃ o, Rs t k i o := Rs.ex t _ k i (Nat.le_refl _) hk hi

end Go.Vw

/-
  Formulas as trees, how they are written, and that what is written is read back. Conditions: as each says.
-/
namespace Go.Vw

inductive Ft where
  | leaf (n : Nd)
  | un (k : Int) (a : Ft)
  | bi (op : Int) (a b : Ft)
def Ft.flat : Ft → List Nd
  | .leaf n => [n]
  | .un k a => ((10 : Int), [], k) :: a.flat
  | .bi op a b => (op, [], (0 : Int)) :: (a.flat ++ b.flat)
def leafOk (n : Nd) : Prop := (n.1 = 1 ∧ isName n.2.1 = true ∧ n.2.2 = 0) ∨ (n.1 = 2 ∧ isName n.2.1 = true ∧ 2 ≤ n.2.2 ∧ n.2.2 ≤ 8) ∨ ((n.1 = 3 ∨ n.1 = 4) ∧ n.2.1 = [] ∧ n.2.2 = 0)
def Ft.ok : Ft → Prop
  | .leaf n => leafOk n
  | .un k a => 1 ≤ k ∧ k ≤ 6 ∧ a.ok
  | .bi op a b => 5 ≤ op ∧ op ≤ 9 ∧ a.ok ∧ b.ok
def Ft.op : Ft → Int
  | .leaf n => n.1
  | .un _ _ => 10
  | .bi op _ _ => op
def rk (op : Int) : Nat := if op = 5 ∨ op = 6 then 0 else if op = 8 ∨ op = 9 then 1 else if op = 7 then 2 else if op = 10 then 3 else 4
def dgB (k : Int) : UInt8 := UInt8.ofNat (48 + k.toNat)
def sgC (op : Int) : UInt8 := if op = 5 then 43 else if op = 6 then 45 else if op = 8 then 42 else if op = 9 then 47 else 58
def sgB (op : Int) : List UInt8 := if op = 7 then [58] else [32, sgC op, 32]
def leafB (n : Nd) : List UInt8 := if n.1 = 1 then n.2.1 else if n.1 = 2 then pwB ++ (40 :: (n.2.1 ++ [44, 32, dgB n.2.2, 41])) else if n.1 = 3 then [49] else [48]
def brB (b : Bool) (s : List UInt8) : List UInt8 := if b then 40 :: (s ++ [41]) else s
def Ft.pr : Ft → List UInt8
  | .leaf n => leafB n
  | .un k a => brB (decide (rk a.op < 3)) a.pr ++ [94, dgB k]
  | .bi op a b => brB (decide (rk a.op < rk op)) a.pr ++ (sgB op ++ brB (decide (rk b.op < rk op + 1)) b.pr)
def Ft.prB (r : Nat) (T : Ft) : List UInt8 := brB (decide (rk T.op < r)) T.pr

/-! ## Words of a written text -/

theorem isInn_dig {c : UInt8} (h : isDig c = true) : isInn c = true := by unfold isInn; simp [h]
/-! ## Reading back -/

def tailK (r : Nat) (e : List Nd) : Kd := if r = 3 then .rai e else .bin r e
def Reads (t : List UInt8) (r : Nat) (i : Nat) (e : List Nd) (j : Nat) : Prop := ∀ o, Rs t (tailK r e) j o → Rs t (.lev r) i o
def Flw (t : List UInt8) (r j : Nat) : Prop := (∀ q, r < q → q < 3 → opOf q (word t j) = none) ∧ (r < 3 → word t j ≠ [94])
theorem Reads.up {t : List UInt8} {q i j : Nat} {e : List Nd} (h : Reads t q i e j) : ∀ (d r : Nat), q = r + d → q ≤ 3 → Flw t r j → Reads t r i e j
  | 0, r, hq, _, _ => by rw [hq] at h; exact h
  | d + 1, r, hq, h3, hf => by
    have h1 : Reads t (r + 1) i e j := Reads.up h d (r + 1) (by omega) h3 ⟨fun q a b => hf.1 q (by omega) b, fun a => hf.2 (by omega)⟩
    intro o ho
    unfold tailK at ho
    rw [if_neg (by omega)] at ho
    refine .levO (by omega) (h1 _ ?_) ho
    unfold tailK
    split
    · exact .rai0 (hf.2 (by omega))
    · exact .bin0 (hf.1 _ (by omega) (by omega))
theorem Reads.of {t : List UInt8} {i j r : Nat} {e : List Nd} (h : Rs t .pri i (.ok (e, j))) (hr : r ≤ 3) (hf : Flw t r j) : Reads t r i e j :=
  Reads.up (q := 3) (fun o ho => .raiO h ho) (3 - r) r (by omega) (Nat.le_refl _) hf
theorem Reads.done {t : List UInt8} {i j r : Nat} {e : List Nd} (h : Reads t r i e j) (hr : r ≤ 3) (h0 : r < 3 → opOf r (word t j) = none) (h3 : word t j ≠ [94]) : Rs t (.lev r) i (.ok (e, j)) := h _ (by
  unfold tailK
  split
  · exact .rai0 h3
  · exact .bin0 (h0 (by omega)))

end Go.Vw

/-
  What is read is a tree; which lists of nodes are trees; where an expression ends. Conditions: none.
-/
namespace Go.Vw

def Built (e : List Nd) : Prop := ∃ T : Ft, T.flat = e ∧ T.ok
def Kd.built : Kd → Prop
  | .bin _ e => Built e
  | .rai e => Built e
  | _ => True
theorem opOf_op {r : Nat} {w : List UInt8} {op : Int} (h : opOf r w = some op) : 5 ≤ op ∧ op ≤ 9 := by
  unfold opOf at h
  split at h
  · split at h
    · cases h; omega
    · split at h
      · cases h; omega
      · cases h
  · split at h
    · split at h
      · cases h; omega
      · split at h
        · cases h; omega
        · cases h
    · split at h
      · cases h; omega
      · cases h
theorem atomP_built {t : List UInt8} {i j : Nat} {e : List Nd} (h : atomP t i = .ok (e, j)) : Built e := by
  unfold atomP at h
  split at h
  · cases h; exact ⟨.leaf _, rfl, .inr (.inr ⟨.inr rfl, rfl, rfl⟩)⟩
  · split at h
    · cases h; exact ⟨.leaf _, rfl, .inr (.inr ⟨.inl rfl, rfl, rfl⟩)⟩
    · split at h
      · obtain ⟨_, _, _, s, n, rfl, h1, h2, h3⟩ := powP_ok h
        exact ⟨.leaf _, rfl, .inr (.inl ⟨rfl, h1, by simp only; omega, by simp only; omega⟩)⟩
      · unfold varP at h
        split at h
        · cases h
        · rename_i s k hk; cases h
          exact ⟨.leaf _, rfl, .inl ⟨rfl, (nameP_ok hk).2.2.2.2, rfl⟩⟩
def BuiltO : Pos (List Nd) → Prop
  | .ok (e, _) => Built e
  | .error _ => True
theorem Rs.tree {t : List UInt8} {k : Kd} {i : Nat} {o : Pos (List Nd)} (h : Rs t k i o) : k.built → BuiltO o := by
  induction h with
  | levE h h1 ih => exact fun _ => trivial
  | levO h h1 h2 ih1 ih2 => exact fun _ => ih2 (ih1 trivial)
  | raiE h1 ih => exact fun _ => trivial
  | raiO h1 h2 ih1 ih2 => exact fun _ => ih2 (ih1 trivial)
  | bin0 h => exact fun h => h
  | binE h h1 ih => exact fun _ => trivial
  | binO h h1 h2 ih1 ih2 =>
    intro hb
    obtain ⟨a, e1, a1⟩ := hb
    obtain ⟨b, e2, b1⟩ := ih1 trivial
    have := opOf_op h
    refine ih2 ⟨.bi _ a b, ?_, this.1, this.2, a1, b1⟩
    simp only [Ft.flat, e1, e2]
  | rai0 h => exact fun h => h
  | raiX h h1 => exact fun _ => trivial
  | @raiN e i n j o h h1 h2 ih =>
    intro hb
    obtain ⟨a, e1, a1⟩ := hb
    have := numP_ok h1
    refine ih ⟨.un (n : Int) a, by simp only [Ft.flat, e1], by omega, by omega, a1⟩
  | @atom i h =>
    intro _
    cases ha : atomP t i with
    | error x => trivial
    | ok p => exact atomP_built ha
  | brE h h1 ih => exact fun _ => trivial
  | brX h h1 h2 ih => exact fun _ => trivial
  | brO h h1 h2 ih => exact fun _ => ih trivial

/-! ## Lists of nodes -/

def leafB? (n : Nd) : Bool := (n.1 == 1 && isName n.2.1 && n.2.2 == 0) || (n.1 == 2 && isName n.2.1 && decide (2 ≤ n.2.2) && decide (n.2.2 ≤ 8)) || ((n.1 == 3 || n.1 == 4) && n.2.1 == [] && n.2.2 == 0)
theorem leafB?_iff {n : Nd} : leafB? n = true ↔ leafOk n := by
  unfold leafB? leafOk
  simp [and_assoc, or_assoc]
def opnd (n : Nd) : Option Nat :=
  if leafB? n then some 0
  else if n.1 = 10 ∧ n.2.1 = [] ∧ 1 ≤ n.2.2 ∧ n.2.2 ≤ 6 then some 1
  else if 5 ≤ n.1 ∧ n.1 ≤ 9 ∧ n.2.1 = [] ∧ n.2.2 = 0 then some 2
  else none
def cnt : List Nd → Nat → Bool
  | [], k => k == 0
  | n :: l, k => match opnd n, k with
    | some a, k + 1 => cnt l (k + a)
    | _, _ => false
def flatL : List Ft → List Nd
  | [] => []
  | T :: r => T.flat ++ flatL r
theorem cnt_trees : ∀ {l : List Nd} {k : Nat}, cnt l k = true → ∃ Ts : List Ft, Ts.length = k ∧ flatL Ts = l ∧ ∀ T ∈ Ts, T.ok
  | [], k, h => by
    have : k = 0 := by simpa [cnt] using h
    subst this; exact ⟨[], rfl, rfl, by simp⟩
  | n :: l, 0, h => by
    simp only [cnt] at h
    cases ho : opnd n <;> rw [ho] at h <;> cases h
  | n :: l, k + 1, h => by
    simp only [cnt] at h
    cases ho : opnd n with
    | none => rw [ho] at h; cases h
    | some a =>
      rw [ho] at h
      obtain ⟨Ts, h1, h2, h3⟩ := cnt_trees h
      obtain ⟨op, s, m⟩ := n
      unfold opnd at ho
      split at ho
      · rename_i hl
        cases ho
        exact ⟨.leaf (op, s, m) :: Ts, by simp [h1], by simp [flatL, Ft.flat, h2], fun T hT => by
          rcases List.mem_cons.1 hT with rfl | hT
          · exact leafB?_iff.1 hl
          · exact h3 T hT⟩
      · split at ho
        · rename_i hu
          cases ho
          simp only at hu
          obtain ⟨u1, u2, u3, u4⟩ := hu
          subst u1 u2
          cases Ts with
          | nil => simp at h1
          | cons a Ts =>
            exact ⟨.un m a :: Ts, by simpa using h1, by simp only [flatL, Ft.flat] at h2 ⊢; rw [← h2]; simp, fun T hT => by
              rcases List.mem_cons.1 hT with rfl | hT
              · exact ⟨u3, u4, h3 a (by simp)⟩
              · exact h3 T (by simp [hT])⟩
        · split at ho
          · rename_i hu
            cases ho
            simp only at hu
            obtain ⟨u1, u2, u3, u4⟩ := hu
            subst u3 u4
            match Ts, h1 with
            | a :: b :: Ts, h1 =>
              exact ⟨.bi op a b :: Ts, by simp at h1 ⊢; omega, by simp only [flatL, Ft.flat] at h2 ⊢; rw [← h2]; simp, fun T hT => by
                rcases List.mem_cons.1 hT with rfl | hT
                · exact ⟨u1, u2, h3 a (by simp), h3 b (by simp)⟩
                · exact h3 T (by simp [hT])⟩
            | [a], h1 => simp at h1
            | [], h1 => simp at h1
          · cases ho
theorem opnd_leaf {n : Nd} (h : leafOk n) : opnd n = some 0 := by
  unfold opnd; rw [if_pos (leafB?_iff.2 h)]
theorem opnd_un {k : Int} (h1 : 1 ≤ k) (h2 : k ≤ 6) : opnd ((10 : Int), [], k) = some 1 := by
  unfold opnd
  have : leafB? ((10 : Int), [], k) = false := by simp [leafB?]
  rw [this]
  rw [if_neg (by simp), if_pos ⟨rfl, rfl, h1, h2⟩]
theorem opnd_bi {op : Int} (h1 : 5 ≤ op) (h2 : op ≤ 9) : opnd (op, [], (0 : Int)) = some 2 := by
  unfold opnd
  have : leafB? (op, [], (0 : Int)) = false := by
    cases h : leafB? (op, [], (0 : Int)) with
    | false => rfl
    | true => exact absurd (leafB?_iff.1 h) (by unfold leafOk; simp only; omega)
  rw [this]
  rw [if_neg (by simp), if_neg (fun h => by have := h.1; omega), if_pos ⟨h1, h2, rfl, rfl⟩]
theorem cnt_app : ∀ (T : Ft), T.ok → ∀ (l : List Nd) (k : Nat), cnt (T.flat ++ l) (k + 1) = cnt l k
  | .leaf n, h, l, k => by
    simp only [Ft.flat, List.cons_append, List.nil_append, cnt, opnd_leaf h, Nat.add_zero]
  | .un m a, h, l, k => by
    simp only [Ft.flat, List.cons_append, cnt, opnd_un h.1 h.2.1]
    exact cnt_app a h.2.2 l k
  | .bi op a b, h, l, k => by
    simp only [Ft.flat, List.cons_append, List.append_assoc, cnt, opnd_bi h.1 h.2.1]
    rw [cnt_app a h.2.2.1, cnt_app b h.2.2.2]
theorem cnt_built {e : List Nd} : cnt e 1 = true ↔ Built e := by
  constructor
  · intro h
    obtain ⟨Ts, h1, h2, h3⟩ := cnt_trees h
    obtain ⟨T, rfl⟩ := List.length_eq_one_iff.1 h1
    exact ⟨T, by simpa [flatL] using h2, h3 T (by simp)⟩
  · rintro ⟨T, rfl, h⟩
    have := cnt_app T h [] 0
    simpa [cnt] using this

def arity (op : Int) : Int := if 1 ≤ op ∧ op ≤ 4 then 0 else if op = 10 then 1 else if 5 ≤ op ∧ op ≤ 9 then 2 else -1
def endN : List Nd → Nat → Option Nat
  | [], _ => none
  | n :: l, k => if arity n.1 < 0 then none else
    match k + (arity n.1).toNat - 1 with
    | 0 => some 1
    | j + 1 => (endN l (j + 1)).map (· + 1)
theorem opnd_arity {n : Nd} {a : Nat} (h : opnd n = some a) : arity n.1 = a := by
  unfold opnd at h
  split at h
  · rename_i hl
    cases h
    have hl := leafB?_iff.1 hl
    unfold arity
    rw [if_pos (by rcases hl with h | h | h <;> omega)]; rfl
  · split at h
    · rename_i hu; cases h; unfold arity; rw [if_neg (by omega), if_pos hu.1]; rfl
    · split at h
      · rename_i hu; cases h; unfold arity; rw [if_neg (by omega), if_neg (by omega), if_pos ⟨hu.1, hu.2.1⟩]; rfl
      · cases h
theorem endN_le : ∀ {l : List Nd} {k n : Nat}, endN l k = some n → 1 ≤ n ∧ n ≤ l.length
  | [], k, n, h => by cases h
  | x :: l, k, n, h => by
    simp only [endN] at h
    split at h
    · cases h
    · split at h
      · cases h; simp
      · simp only [Option.map_eq_some_iff] at h
        obtain ⟨m, h1, rfl⟩ := h
        have := endN_le h1
        simp; omega
theorem endN_cnt : ∀ {l : List Nd} {k : Nat}, (∀ n ∈ l, opnd n ≠ none) → 1 ≤ k → (endN l k = some l.length ↔ cnt l k = true)
  | [], k, _, h1 => by simp only [endN, cnt]; simp; omega
  | n :: l, 0, _, h1 => by omega
  | n :: l, k + 1, h, h1 => by
    obtain ⟨a, ha⟩ := Option.ne_none_iff_exists'.1 (h n (by simp))
    have har := opnd_arity ha
    simp only [endN, cnt, ha, har, Int.toNat_natCast]
    rw [if_neg (by omega), show k + 1 + a - 1 = k + a by omega]
    cases hk : k + a with
    | zero =>
      simp only
      cases l with
      | nil => simp [cnt]
      | cons m l => simp [cnt]
    | succ j =>
      simp only
      have := endN_cnt (l := l) (k := j + 1) (fun n hn => h n (by simp [hn])) (by omega)
      rw [← this]
      constructor
      · intro h
        simp only [Option.map_eq_some_iff] at h
        obtain ⟨m, h1, h2⟩ := h
        rw [h1]; simp at h2; rw [h2]
      · intro h; rw [h]; simp

end Go.Vw

/-
  A text cut at a word's beginning is read alike up to there. Conditions: the cut is at a word's beginning.
-/
namespace Go.Vw

structure CutAt (t : List UInt8) (c : Nat) : Prop extends At t c where
  cl : c = 0 ∨ isInn (t.getD (c - 1) 0) = false
section
variable {t : List UInt8} {c : Nat} (hc : CutAt t c)
include hc
theorem cut_len : (t.take c).length = c := by have := hc.le; simp; omega
theorem cut_get {i : Nat} (h : i < c) : (t.take c).getD i 0 = t.getD i 0 := by
  simp [List.getD_eq_getElem?_getD, List.getElem?_take, h]
theorem cut_run {p : UInt8 → Bool} {i : Nat} (hi : i ≤ c) (h : runE p t i ≤ c) : runE p (t.take c) i = runE p t i := by
  refine runE_eq (runE_ge _ _ _) (by rw [cut_len hc]; exact h) (fun k a b => ?_) (fun a => ?_)
  · rw [cut_get hc (by omega)]; exact runE_in p a b
  · rw [cut_len hc] at a
    rw [cut_get hc a]; exact runE_stop p (by have := hc.le; omega)
theorem run_cut {p : UInt8 → Bool} (hp : ∀ x, p x = true → isInn x = true) {i : Nat} (hi : i < c) : runE p t i ≤ c := by
  rcases Nat.lt_or_ge c (runE p t i) with h | h
  · exfalso
    rcases hc.cl with h0 | h0
    · omega
    · have := hp _ (runE_in p (t := t) (i := i) (j := c - 1) (by omega) (by omega))
      rw [h0] at this; cases this
  · exact h
theorem cut_wend {i : Nat} (hi : i < c) : wend t i ≤ c ∧ wend (t.take c) i = wend t i := by
  have hle := hc.le
  have h1 : i < t.length := by omega
  have h2 : i < (t.take c).length := by rw [cut_len hc]; exact hi
  unfold wend
  rw [if_pos h1, if_pos h2, cut_get hc hi]
  split
  · have := run_cut hc (p := isInn) (fun _ h => h) hi
    exact ⟨this, cut_run hc (by omega) this⟩
  · split
    · have := run_cut hc (p := isDig) (fun _ h => isInn_dig h) hi
      exact ⟨this, cut_run hc (by omega) this⟩
    · exact ⟨by omega, rfl⟩
theorem cut_word {i : Nat} (hi : i < c) : word (t.take c) i = word t i := by
  obtain ⟨h1, h2⟩ := cut_wend hc hi
  unfold word
  rw [h2, List.drop_take, List.take_take, Nat.min_eq_left (by omega)]
theorem cut_end : word (t.take c) c = [] := (word_nil (by rw [cut_len hc]; omega)).2 (cut_len hc).symm
theorem skp_cut {i : Nat} (hi : i ≤ c) : skp t i ≤ c := by
  rcases Nat.lt_or_ge c (skp t i) with h | h
  · exfalso
    have h1 := runE_in isBl (t := t) (i := i) hi h
    have hle := hc.le
    by_cases e : c < t.length
    · have h2 := runE_stop isBl (t := t) (i := c) (by have := hc.skp; unfold skp at this; rw [this]; exact e)
      have h3 := hc.skp
      unfold skp at h3
      rw [h3, h1] at h2; cases h2
    · have := runE_le isBl (t := t) (i := i) (by omega)
      unfold skp at h; omega
  · exact h
theorem cut_nxt {i : Nat} (hi : i < c) : nxt t i ≤ c ∧ nxt (t.take c) i = nxt t i := by
  obtain ⟨h1, h2⟩ := cut_wend hc hi
  unfold nxt
  rw [h2]
  exact ⟨skp_cut hc h1, cut_run hc h1 (skp_cut hc h1)⟩
def CutR (t : List UInt8) (c : Nat) (k : Kd) (i : Nat) : Pos (List Nd) → Prop
  | .ok (e, j) => j ≤ c → Rs (t.take c) k i (.ok (e, j))
  | .error x => x.1 = c → ∃ o', Rs (t.take c) k i o' ∧ (o' = .error (c, 3) ∨ ∃ e, o' = .ok (e, c))
theorem must_cut {d : UInt8} {i : Nat} (hi : i ≤ c) : (∀ j, mustP t d i = .ok j → j ≤ c → i < c → mustP (t.take c) d i = .ok j) ∧ (i = c → mustP (t.take c) d i = .error (c, 3)) := by
  constructor
  · intro j h hj hlt
    have := mustP_ok h
    unfold mustP
    rw [cut_word hc hlt, if_pos this.2.2.2, (cut_nxt hc hlt).2, this.2.2.1]
  · intro e; subst e
    unfold mustP
    rw [cut_end hc, if_neg (by simp)]
theorem name_cut {i : Nat} : (∀ s j, nameP t i = .ok (s, j) → i < c → nameP (t.take c) i = .ok (s, j)) ∧ (i = c → nameP (t.take c) i = .error (c, 3)) := by
  constructor
  · intro s j h hlt
    have := nameP_ok h
    unfold nameP
    rw [cut_word hc hlt, ← this.2.2.2.1, if_pos this.2.2.2.2, (cut_nxt hc hlt).2, this.2.2.1]
  · intro e; subst e
    unfold nameP
    rw [cut_end hc, if_neg (by decide)]
theorem num_cut {lo hi i : Nat} : (∀ n j, numP t lo hi i = .ok (n, j) → i < c → numP (t.take c) lo hi i = .ok (n, j)) ∧ (i = c → numP (t.take c) lo hi i = .error (c, 3)) := by
  constructor
  · intro n j h hlt
    have := numP_ok h
    have hd : digP (t.take c) i = some n := by
      have := this.2.2.2.2.2
      unfold digP at this ⊢
      rw [cut_word hc hlt]; exact this
    unfold numP
    rw [hd]
    simp only
    rw [if_pos ⟨this.2.2.2.1, this.2.2.2.2.1⟩, (cut_nxt hc hlt).2, this.2.2.1]
  · intro e; subst e
    unfold numP digP
    rw [cut_end hc]
    simp
theorem pow_cut {i : Nat} (hi : At t i) (hic : i ≤ c) : (∀ e j, powP t i = .ok (e, j) → j ≤ c → powP (t.take c) i = .ok (e, j)) ∧ (∀ x, powP t i = .error x → x.1 = c → powP (t.take c) i = .error (c, 3)) := by
  constructor
  · intro e j h hj
    unfold powP at h
    repeat' split at h
    all_goals first | (cases h; done) | skip
    rename_i _ i1 h1 _ s i2 h2 _ i3 h3 _ n i4 h4 _ i5 h5
    cases h
    have a1 := mustP_ok h1
    have a2 := nameP_ok h2
    have a3 := mustP_ok h3
    have a4 := numP_ok h4
    have a5 := mustP_ok h5
    unfold powP
    rw [(must_cut hc (by omega)).1 _ h1 (by omega) (by omega)]; simp only
    rw [(name_cut hc).1 _ _ h2 (by omega)]; simp only
    rw [(must_cut hc (by omega)).1 _ h3 (by omega) (by omega)]; simp only
    rw [(num_cut hc).1 _ _ h4 (by omega)]; simp only
    rw [(must_cut hc (by omega)).1 _ h5 (by omega) (by omega)]
  · intro x h hx
    unfold powP at h ⊢
    split at h
    · rename_i h1; cases h
      have e := (mustP_er h1).1; subst e
      rw [(must_cut hc (by omega)).2 hx]
    · rename_i i1 h1
      have a1 := mustP_ok h1
      split at h
      · rename_i h2; cases h
        have e := (nameP_er h2).1; subst e
        simp only at hx
        rw [(must_cut hc (by omega)).1 _ h1 (by omega) (by omega)]; simp only
        rw [(name_cut hc).2 hx]
      · rename_i s i2 h2
        have a2 := nameP_ok h2
        split at h
        · rename_i h3; cases h
          have e := (mustP_er h3).1; subst e
          simp only at hx
          rw [(must_cut hc (by omega)).1 _ h1 (by omega) (by omega)]; simp only
          rw [(name_cut hc).1 _ _ h2 (by omega)]; simp only
          rw [(must_cut hc (by omega)).2 hx]
        · rename_i i3 h3
          have a3 := mustP_ok h3
          split at h
          · rename_i h4; cases h
            have e : x.1 = i3 := by rcases numP_er h4 with e | e <;> rw [e]
            rw [(must_cut hc (by omega)).1 _ h1 (by omega) (by omega)]; simp only
            rw [(name_cut hc).1 _ _ h2 (by omega)]; simp only
            rw [(must_cut hc (by omega)).1 _ h3 (by omega) (by omega)]; simp only
            rw [(num_cut hc).2 (by omega)]
          · rename_i n i4 h4
            have a4 := numP_ok h4
            split at h
            · rename_i h5; cases h
              have e := (mustP_er h5).1; subst e
              simp only at hx
              rw [(must_cut hc (by omega)).1 _ h1 (by omega) (by omega)]; simp only
              rw [(name_cut hc).1 _ _ h2 (by omega)]; simp only
              rw [(must_cut hc (by omega)).1 _ h3 (by omega) (by omega)]; simp only
              rw [(num_cut hc).1 _ _ h4 (by omega)]; simp only
              rw [(must_cut hc (by omega)).2 hx]
            · cases h
theorem atom_end : atomP (t.take c) c = .error (c, 3) := by
  unfold atomP
  rw [cut_end hc, if_neg (by simp), if_neg (by simp), if_neg (by decide)]
  unfold varP nameP
  rw [cut_end hc]; rfl
theorem atom_cut {i : Nat} (hi : At t i) : (∀ e j, atomP t i = .ok (e, j) → i < c → j ≤ c → atomP (t.take c) i = .ok (e, j)) ∧ (∀ x, atomP t i = .error x → i < c → x.1 = c → atomP (t.take c) i = .error (c, 3)) := by
  constructor
  · intro e j h hlt hj
    unfold atomP at h ⊢
    rw [cut_word hc hlt, (cut_nxt hc hlt).2]
    split
    · rename_i hw; rw [if_pos hw] at h; exact h
    · rename_i hw; rw [if_neg hw] at h
      split
      · rename_i hw; rw [if_pos hw] at h; exact h
      · rename_i hw; rw [if_neg hw] at h
        split
        · rename_i hw; rw [if_pos hw] at h
          exact (pow_cut hc (at_nxt t i) (cut_nxt hc hlt).1).1 _ _ h hj
        · rename_i hw; rw [if_neg hw] at h
          unfold varP at h ⊢
          split at h
          · cases h
          · rename_i s k hk; cases h
            rw [(name_cut hc).1 _ _ hk hlt]
  · intro x h hlt hx
    unfold atomP at h ⊢
    rw [cut_word hc hlt, (cut_nxt hc hlt).2]
    split
    · rename_i hw; rw [if_pos hw] at h; cases h
    · rename_i hw; rw [if_neg hw] at h
      split
      · rename_i hw; rw [if_pos hw] at h; cases h
      · rename_i hw; rw [if_neg hw] at h
        split
        · rename_i hw; rw [if_pos hw] at h
          exact (pow_cut hc (at_nxt t i) (cut_nxt hc hlt).1).2 _ h hx
        · rename_i hw; rw [if_neg hw] at h
          unfold varP at h
          split at h
          · rename_i hk; cases h
            have e := (nameP_er hk).1; subst e
            simp only at hx; omega
          · cases h
theorem Rs.cut {k : Kd} {i : Nat} {o : Pos (List Nd)} (h : Rs t k i o) : k.ok → At t i → i ≤ c → CutR t c k i o := by
  induction h with
  | @levE r i x h h1 ih =>
    intro hk hi hic hx
    have hk : r ≤ 3 := hk
    obtain ⟨o', h2, h3⟩ := ih (show r + 1 ≤ 3 by omega) hi hic hx
    rcases h3 with e | ⟨e, he⟩
    · subst e; exact ⟨_, .levE h h2, .inl rfl⟩
    · subst he
      exact ⟨_, .levO h h2 (.bin0 (by rw [cut_end hc]; exact opOf_nil r)), .inr ⟨e, rfl⟩⟩
  | @raiE i x h1 ih =>
    intro hk hi hic hx
    obtain ⟨o', h2, h3⟩ := ih trivial hi hic hx
    rcases h3 with e | ⟨e, he⟩
    · subst e; exact ⟨_, .raiE h2, .inl rfl⟩
    · subst he
      exact ⟨_, .raiO h2 (.rai0 (by rw [cut_end hc]; simp)), .inr ⟨e, rfl⟩⟩
  | @levO r i e j o h h1 h2 ih1 ih2 =>
    intro hk hi hic
    have hk : r ≤ 3 := hk
    have g := h1.goes hi
    have g2 := h2.goes g.1
    cases o with
    | error x =>
      intro hx
      have hj : j ≤ c := by have := g2.1; omega
      obtain ⟨o', q2, q3⟩ := ih2 h g.1 hj hx
      exact ⟨o', .levO h (ih1 (show r + 1 ≤ 3 by omega) hi hic hj) q2, q3⟩
    | ok p =>
      obtain ⟨e2, j2⟩ := p
      intro hj2
      have hj : j ≤ c := by have := g2.2.1; omega
      exact .levO h (ih1 (show r + 1 ≤ 3 by omega) hi hic hj) (ih2 h g.1 hj hj2)
  | @raiO i e j o h1 h2 ih1 ih2 =>
    intro hk hi hic
    have g := h1.goes hi
    have g2 := h2.goes g.1
    cases o with
    | error x =>
      intro hx
      have hj : j ≤ c := by have := g2.1; omega
      obtain ⟨o', q2, q3⟩ := ih2 trivial g.1 hj hx
      exact ⟨o', .raiO (ih1 trivial hi hic hj) q2, q3⟩
    | ok p =>
      obtain ⟨e2, j2⟩ := p
      intro hj2
      have hj : j ≤ c := by have := g2.2.1; omega
      exact .raiO (ih1 trivial hi hic hj) (ih2 trivial g.1 hj hj2)
  | @bin0 r e i h =>
    intro hk hi hic hj
    refine .bin0 ?_
    by_cases hlt : i < c
    · rw [cut_word hc hlt]; exact h
    · have : i = c := by omega
      subst this
      rw [cut_end hc]; exact opOf_nil r
  | @rai0 e i h =>
    intro hk hi hic hj
    refine .rai0 ?_
    by_cases hlt : i < c
    · rw [cut_word hc hlt]; exact h
    · have : i = c := by omega
      subst this
      rw [cut_end hc]; simp
  | @binE r e i op x h h1 ih =>
    intro hk hi hic hx
    have hk : r < 3 := hk
    by_cases hlt : i < c
    · have hn := cut_nxt hc hlt
      have hw : opOf r (word (t.take c) i) = some op := by rw [cut_word hc hlt]; exact h
      obtain ⟨o', q2, q3⟩ := ih (show r + 1 ≤ 3 by omega) (at_nxt t i) hn.1 hx
      rcases q3 with q | ⟨e2, q⟩
      · subst q; exact ⟨_, .binE hw (by rw [hn.2]; exact q2), .inl rfl⟩
      · subst q
        exact ⟨_, .binO hw (by rw [hn.2]; exact q2) (.bin0 (by rw [cut_end hc]; exact opOf_nil r)), .inr ⟨_, rfl⟩⟩
    · have : i = c := by omega
      subst this
      exact ⟨_, .bin0 (by rw [cut_end hc]; exact opOf_nil r), .inr ⟨e, rfl⟩⟩
  | @binO r e i op e' j o h h1 h2 ih1 ih2 =>
    intro hk hi hic
    have hk : r < 3 := hk
    have hl := nxt_gt (opOf_lt h)
    have g := h1.goes (at_nxt t i)
    have g2 := h2.goes g.1
    cases o with
    | error x =>
      intro hx
      have hj : j ≤ c := by have := g2.1; omega
      have hlt : i < c := by have := g.2.1; omega
      have hn := cut_nxt hc hlt
      have hw : opOf r (word (t.take c) i) = some op := by rw [cut_word hc hlt]; exact h
      obtain ⟨o', q2, q3⟩ := ih2 hk g.1 hj hx
      exact ⟨o', .binO hw (by rw [hn.2]; exact ih1 (show r + 1 ≤ 3 by omega) (at_nxt t i) hn.1 hj) q2, q3⟩
    | ok p =>
      obtain ⟨e2, j2⟩ := p
      intro hj2
      have hj : j ≤ c := by have := g2.2.1; omega
      have hlt : i < c := by have := g.2.1; omega
      have hn := cut_nxt hc hlt
      have hw : opOf r (word (t.take c) i) = some op := by rw [cut_word hc hlt]; exact h
      exact .binO hw (by rw [hn.2]; exact ih1 (show r + 1 ≤ 3 by omega) (at_nxt t i) hn.1 hj) (ih2 hk g.1 hj hj2)
  | @raiX e i x h h1 =>
    intro hk hi hic hx
    by_cases hlt : i < c
    · have hn := cut_nxt hc hlt
      have ex : x.1 = nxt t i := by rcases numP_er h1 with q | q <;> rw [q]
      exact ⟨_, .raiX (by rw [cut_word hc hlt]; exact h) (by rw [hn.2]; exact (num_cut hc).2 (by omega)), .inl rfl⟩
    · have : i = c := by omega
      subst this
      exact ⟨_, .rai0 (by rw [cut_end hc]; simp), .inr ⟨e, rfl⟩⟩
  | @raiN e i n j o h h1 h2 ih =>
    intro hk hi hic
    have hl := nxt_gt (lt_of_word (t := t) (i := i) (by rw [h]; simp))
    have a := numP_ok h1
    have g2 := h2.goes a.1
    cases o with
    | error x =>
      intro hx
      have hj : j ≤ c := by have := g2.1; omega
      have hlt : i < c := by omega
      have hn := cut_nxt hc hlt
      obtain ⟨o', q2, q3⟩ := ih trivial a.1 hj hx
      exact ⟨o', .raiN (by rw [cut_word hc hlt]; exact h) (by rw [hn.2]; exact (num_cut hc).1 _ _ h1 (by omega)) q2, q3⟩
    | ok p =>
      obtain ⟨e2, j2⟩ := p
      intro hj2
      have hj : j ≤ c := by have := g2.2.1; omega
      have hlt : i < c := by omega
      have hn := cut_nxt hc hlt
      exact .raiN (by rw [cut_word hc hlt]; exact h) (by rw [hn.2]; exact (num_cut hc).1 _ _ h1 (by omega)) (ih trivial a.1 hj hj2)
  | @atom i h =>
    intro hk hi hic
    cases ha : atomP t i with
    | error x =>
      intro hx
      by_cases hlt : i < c
      · have e := (atom_cut hc hi).2 _ ha hlt hx
        exact ⟨_, by rw [← e]; exact .atom (by rw [cut_word hc hlt]; exact h), .inl rfl⟩
      · have : i = c := by omega
        subst this
        exact ⟨_, by rw [← atom_end hc]; exact .atom (by rw [cut_end hc]; simp), .inl rfl⟩
    | ok p =>
      obtain ⟨e, j⟩ := p
      intro hj
      have := atomP_ok ha
      have e := (atom_cut hc hi).1 _ _ ha (by omega) hj
      rw [← e]
      exact .atom (by rw [cut_word hc (by omega)]; exact h)
  | @brE i x h h1 ih =>
    intro hk hi hic hx
    by_cases hlt : i < c
    · have hn := cut_nxt hc hlt
      have hw : word (t.take c) i = [40] := by rw [cut_word hc hlt]; exact h
      obtain ⟨o', q2, q3⟩ := ih (show 0 ≤ 3 by omega) (at_nxt t i) hn.1 hx
      rcases q3 with q | ⟨e2, q⟩
      · subst q; exact ⟨_, .brE hw (by rw [hn.2]; exact q2), .inl rfl⟩
      · subst q
        exact ⟨_, .brX hw (by rw [hn.2]; exact q2) ((must_cut hc (Nat.le_refl _)).2 rfl), .inl rfl⟩
    · have : i = c := by omega
      subst this
      exact ⟨_, by rw [← atom_end hc]; exact .atom (by rw [cut_end hc]; simp), .inl rfl⟩
  | @brX i e j x h h1 h2 ih =>
    intro hk hi hic hx
    have hl := nxt_gt (lt_of_word (t := t) (i := i) (by rw [h]; simp))
    have g := h1.goes (at_nxt t i)
    have ex := (mustP_er h2).1
    subst ex
    simp only at hx
    have hlt : i < c := by have := g.2.1; omega
    have hn := cut_nxt hc hlt
    have hw : word (t.take c) i = [40] := by rw [cut_word hc hlt]; exact h
    have q2 := ih (show 0 ≤ 3 by omega) (at_nxt t i) hn.1 (by omega)
    exact ⟨_, .brX hw (by rw [hn.2]; exact q2) ((must_cut hc (by omega)).2 hx), .inl rfl⟩
  | @brO i e j k h h1 h2 ih =>
    intro hk hi hic hj
    have hl := nxt_gt (lt_of_word (t := t) (i := i) (by rw [h]; simp))
    have g := h1.goes (at_nxt t i)
    have b := mustP_ok h2
    have hlt : i < c := by have := g.2.1; omega
    have hn := cut_nxt hc hlt
    have hw : word (t.take c) i = [40] := by rw [cut_word hc hlt]; exact h
    have q2 := ih (show 0 ≤ 3 by omega) (at_nxt t i) hn.1 (by omega)
    exact .brO hw (by rw [hn.2]; exact q2) ((must_cut hc (by omega)).1 _ h2 hj (by omega))
end
end Go.Vw

/-
  Bytes by their numbers; nodes as data. Conditions: none.
-/
namespace Go.Vw
abbrev bD (c : UInt8) : D := .int .u8 (c.toNat : Int)
@[reducible] def ndC (n : Nd) : List D := [.int .i64 n.1, .str n.2.1, .int .i64 n.2.2]
abbrev nd0 : Nd := ((0 : Int), [], (0 : Int))
abbrev ndsD (l : List Nd) : D := .sl 3 ndC nd0 l
theorem isLet_nat (c : UInt8) : isLet c = (decide ((97 : Int) ≤ (c.toNat : Int)) && decide ((c.toNat : Int) ≤ 122) || (decide ((65 : Int) ≤ (c.toNat : Int)) && decide ((c.toNat : Int) ≤ 90))) := by
  unfold isLet
  simp only [UInt8.le_iff_toNat_le]
  congr 2 <;> apply decide_eq_decide.2 <;> simp <;> omega
theorem isDig_nat (c : UInt8) : isDig c = (decide ((48 : Int) ≤ (c.toNat : Int)) && decide ((c.toNat : Int) ≤ 57)) := by
  unfold isDig
  simp only [UInt8.le_iff_toNat_le]
  congr 1 <;> apply decide_eq_decide.2 <;> simp <;> omega
theorem u8_eq (c d : UInt8) : (c = d) ↔ ((c.toNat : Int) = (d.toNat : Int)) := by
  rw [Int.ofNat_inj]; exact UInt8.toNat_inj.symm
theorem isInn_nat (c : UInt8) : isInn c = (isLet c || isDig c || decide ((c.toNat : Int) = 95) || decide ((c.toNat : Int) = 46)) := by
  unfold isInn
  congr 1
  · congr 1
    rw [show (95 : Int) = ((95 : UInt8).toNat : Int) from rfl]
    rw [Bool.eq_iff_iff, beq_iff_eq, decide_eq_true_eq]; exact u8_eq c 95
  · rw [show (46 : Int) = ((46 : UInt8).toNat : Int) from rfl]
    rw [Bool.eq_iff_iff, beq_iff_eq, decide_eq_true_eq]; exact u8_eq c 46
theorem isBl_nat (c : UInt8) : isBl c = decide ((c.toNat : Int) = 32) := by
  unfold isBl
  rw [show (32 : Int) = ((32 : UInt8).toNat : Int) from rfl, Bool.eq_iff_iff, beq_iff_eq, decide_eq_true_eq]; exact u8_eq c 32
theorem u8_rng (c : UInt8) : (c.toNat : Int) < 256 := by have := c.toNat_lt; omega
end Go.Vw
namespace Go.Vw
theorem all_run (p : UInt8 → Bool) (s : List UInt8) : s.all p = decide (runE p s 0 = s.length) := by
  rw [Bool.eq_iff_iff, decide_eq_true_eq, List.all_eq_true]
  constructor
  · intro h
    exact runE_eq (Nat.zero_le _) (Nat.le_refl _) (fun k _ hk => by
      rw [List.getD_eq_getElem?_getD, List.getElem?_eq_getElem hk]
      exact h _ (List.getElem_mem hk)) (fun h => by omega)
  · intro h x hx
    obtain ⟨k, hk, rfl⟩ := List.getElem_of_mem hx
    have := runE_in p (t := s) (i := 0) (j := k) (Nat.zero_le _) (by omega)
    rwa [List.getD_eq_getElem?_getD, List.getElem?_eq_getElem hk] at this
theorem name_bad {s : List UInt8} (h : s = [] ∨ 32 < s.length ∨ isLet (s.getD 0 0) = false ∨ s = pwB) : isName s = false := by
  unfold isName
  rcases h with h | h | h | h
  · subst h; rfl
  · have : decide (s.length ≤ 32) = false := decide_eq_false (by omega)
    simp [this]
  · rw [h]; simp
  · subst h; decide
theorem name_good {s : List UInt8} (h1 : s ≠ []) (h2 : s.length ≤ 32) (h3 : isLet (s.getD 0 0) = true) (h4 : s ≠ pwB) : isName s = decide (runE isInn s 0 = s.length) := by
  unfold isName
  have e1 : 1 ≤ s.length := List.length_pos_iff.2 h1
  rw [all_run, h3, decide_eq_true e1, decide_eq_true h2, beq_eq_false_iff_ne.2 h4]; simp
end Go.Vw
