/-
  The rules of the walk, their side conditions paid by themselves. Conditions: as each says.
-/
import Derived.Test.YtcblkjmnigbiiaaDoorAbsN
set_option autoImplicit false
set_option linter.unusedVariables false
set_option linter.unusedSectionVars false
namespace Go.Ab
open Go.RowKit

/-- The numbers of a kind. -/
def lim : IntKind → Int → Prop
  | .i64, e => -9223372036854775808 ≤ e ∧ e < 9223372036854775808
  | .u64, e => 0 ≤ e ∧ e < 18446744073709551616
  | .u32, e => 0 ≤ e ∧ e < 4294967296
  | .u8, e => 0 ≤ e ∧ e < 256
  | _, _ => False
theorem wrap_lim : ∀ {k : IntKind} {e : Int}, lim k e → k.wrap e = e
  | .i64, _, h => wrap_i64 h
  | .u64, _, h => wrap_u64 h
  | .u32, _, h => wrap_u32 h
  | .u8, _, h => wrap_u8 h
/-- The rest by a kind's size. -/
def rest? : IntKind → Option Int
  | .u64 => some 18446744073709551616
  | .u32 => some 4294967296
  | .u8 => some 256
  | _ => none
theorem wrap_rest : ∀ {k : IntKind} {m : Int} (e : Int), rest? k = some m → k.wrap e = e % m
  | .u64, _, e, h => by cases h; exact wrap_u64' e
  | .u32, _, e, h => by cases h; exact wrap_u32' e
  | .u8, _, e, h => by cases h; exact wrap_u8' e

theorem ok {C : Prop} (h : C := by repeat' (first | exact trivial | exact Nat.le_of_ble_eq_true rfl | rfl | apply And.intro | omega)) : C := h

section
variable {X : Ctx} {T : TypeId → Option TyD} {all : Array Oper} {Q : Exit → St → Prop} {s : St} {o : Oper} {rest : List Oper} {dst : Option Tmp} {ty : TypeId} {pos : String} {after : Array Edge} {g : Option (Nat × Bool)}

theorem sStep (hT : TabOk X.P T) {C : Prop} {s' : St} (h : evalS T X.N all s o = some (C, s')) (k : awpL X all rest Q s') (hC : C := by first | exact trivial | exact ⟨trivial, rfl⟩ | exact Nat.le_of_ble_eq_true rfl | exact ⟨Nat.le_of_ble_eq_true rfl, rfl⟩ | exact ⟨trivial, trivial⟩ | exact ⟨rfl, trivial⟩ | exact ⟨⟨rfl, by omega⟩, trivial⟩ | exact ⟨by omega, trivial⟩ | exact ⟨by decide, trivial⟩ | decide | omega) : awpL X all (o :: rest) Q s := awpL_step hT h hC k

theorem sWrap {bop : BinOp} {bt bu : TypeId} {bx by' : Operand} (hT : TabOk X.P T) {C : Prop} {kd : IntKind} {e : Int} {s1 : St} {d : Option Tmp} (h : evalS T X.N all s ⟨dst, .binOp bop bt bx by' bu, ty, pos, after, g⟩ = some (C, s1.put d (.d (.int kd (kd.wrap e))))) (k : awpL X all rest Q (s1.put d (.d (.int kd e)))) (hC : C := by first | exact ⟨rfl, trivial⟩ | exact ⟨⟨rfl, by omega⟩, trivial⟩ | exact ⟨by omega, trivial⟩) (hl : lim kd e := by (show _ ≤ _ ∧ _ < _; omega)) : awpL X all (⟨dst, .binOp bop bt bx by' bu, ty, pos, after, g⟩ :: rest) Q s := awpL_wrap hT h hC (wrap_lim hl) k
theorem sConv {bt bu : TypeId} {bx : Operand} (hT : TabOk X.P T) {C : Prop} {kd : IntKind} {e : Int} {s1 : St} {d : Option Tmp} (h : evalS T X.N all s ⟨dst, .convert bt bu bx, ty, pos, after, g⟩ = some (C, s1.put d (.d (.int kd (kd.wrap e))))) (k : awpL X all rest Q (s1.put d (.d (.int kd e)))) (hC : C := by exact trivial) (hl : lim kd e := by (show _ ≤ _ ∧ _ < _; omega)) : awpL X all (⟨dst, .convert bt bu bx, ty, pos, after, g⟩ :: rest) Q s := awpL_conv hT h hC (wrap_lim hl) k
theorem sConvR {bt bu : TypeId} {bx : Operand} (hT : TabOk X.P T) {C : Prop} {kd : IntKind} {e m : Int} {s1 : St} {d : Option Tmp} (h : evalS T X.N all s ⟨dst, .convert bt bu bx, ty, pos, after, g⟩ = some (C, s1.put d (.d (.int kd (kd.wrap e))))) (hm : rest? kd = some m) (k : awpL X all rest Q (s1.put d (.d (.int kd (e % m))))) (hC : C := by exact trivial) : awpL X all (⟨dst, .convert bt bu bx, ty, pos, after, g⟩ :: rest) Q s := awpL_conv hT h hC (wrap_rest e hm) k
theorem sUn {uo : UnOp} {bt : TypeId} {bx : Operand} (hT : TabOk X.P T) {C : Prop} {kd : IntKind} {e : Int} {s1 : St} {d : Option Tmp} (h : evalS T X.N all s ⟨dst, .unOp uo bt bx, ty, pos, after, g⟩ = some (C, s1.put d (.d (.int kd (kd.wrap e))))) (k : awpL X all rest Q (s1.put d (.d (.int kd e)))) (hC : C := by exact trivial) (hl : lim kd e := by (show _ ≤ _ ∧ _ < _; omega)) : awpL X all (⟨dst, .unOp uo bt bx, ty, pos, after, g⟩ :: rest) Q s := awpL_unwrap hT h hC (wrap_lim hl) k
theorem sUnR {uo : UnOp} {bt : TypeId} {bx : Operand} (hT : TabOk X.P T) {C : Prop} {kd : IntKind} {e m : Int} {s1 : St} {d : Option Tmp} (h : evalS T X.N all s ⟨dst, .unOp uo bt bx, ty, pos, after, g⟩ = some (C, s1.put d (.d (.int kd (kd.wrap e))))) (hm : rest? kd = some m) (k : awpL X all rest Q (s1.put d (.d (.int kd (e % m))))) (hC : C := by exact trivial) : awpL X all (⟨dst, .unOp uo bt bx, ty, pos, after, g⟩ :: rest) Q s := awpL_unwrap hT h hC (wrap_rest e hm) k
theorem sShr {bt bu : TypeId} {bx by' : Operand} (hT : TabOk X.P T) {C : Prop} {kd : IntKind} {a : Int} {s1 : St} {d : Option Tmp} (h : evalS T X.N all s ⟨dst, .binOp .shr bt bx by' bu, ty, pos, after, g⟩ = some (C, s1.put d (.d (.int kd (a.fdiv (2 ^ 32)))))) (K : awpL X all rest Q (s1.put d (.d (.int kd (a / 4294967296))))) (hC : C := by exact ⟨by omega, trivial⟩) : awpL X all (⟨dst, .binOp .shr bt bx by' bu, ty, pos, after, g⟩ :: rest) Q s := awpL_shr32 hT h hC K
theorem sQuo {bt bu : TypeId} {bx by' : Operand} (hT : TabOk X.P T) {C : Prop} {kd : IntKind} {a b : Int} {s1 : St} {d : Option Tmp} (h : evalS T X.N all s ⟨dst, .binOp .quo bt bx by' bu, ty, pos, after, g⟩ = some (C, s1.put d (.d (.int kd (kd.wrap (a.tdiv b)))))) (K : awpL X all rest Q (s1.put d (.d (.int kd (a / b))))) (hC : C := by exact ⟨⟨rfl, by omega⟩, trivial⟩) (ha : 0 ≤ a := by omega) (hl : lim kd (a / b) := by (show _ ≤ _ ∧ _ < _; omega)) : awpL X all (⟨dst, .binOp .quo bt bx by' bu, ty, pos, after, g⟩ :: rest) Q s := awpL_quo hT h hC ha (wrap_lim hl) K
theorem sRem {bt bu : TypeId} {bx by' : Operand} (hT : TabOk X.P T) {C : Prop} {kd : IntKind} {a b : Int} {s1 : St} {d : Option Tmp} (h : evalS T X.N all s ⟨dst, .binOp .rem bt bx by' bu, ty, pos, after, g⟩ = some (C, s1.put d (.d (.int kd (a.tmod b))))) (K : awpL X all rest Q (s1.put d (.d (.int kd (a % b))))) (hC : C := by exact ⟨⟨rfl, by omega⟩, trivial⟩) (ha : 0 ≤ a := by omega) : awpL X all (⟨dst, .binOp .rem bt bx by' bu, ty, pos, after, g⟩ :: rest) Q s := awpL_rem hT h hC ha K
theorem sDec {bop : BinOp} {bt bu : TypeId} {bx by' : Operand} (hT : TabOk X.P T) {C : Prop} {p : Prop} [Decidable p] {s1 : St} {d : Option Tmp} (h : evalS T X.N all s ⟨dst, .binOp bop bt bx by' bu, ty, pos, after, g⟩ = some (C, s1.put d (.d (.bool (decide p))))) (k1 : p → awpL X all rest Q (s1.put d (.d (.bool true)))) (k2 : ¬ p → awpL X all rest Q (s1.put d (.d (.bool false)))) (hC : C := by first | exact ⟨rfl, trivial⟩ | exact ⟨trivial, rfl⟩) : awpL X all (⟨dst, .binOp bop bt bx by' bu, ty, pos, after, g⟩ :: rest) Q s := awpL_dec hT h hC k1 k2
theorem sNdec {bop : BinOp} {bt bu : TypeId} {bx by' : Operand} (hT : TabOk X.P T) {C : Prop} {p : Prop} [Decidable p] {s1 : St} {d : Option Tmp} (h : evalS T X.N all s ⟨dst, .binOp bop bt bx by' bu, ty, pos, after, g⟩ = some (C, s1.put d (.d (.bool (!decide p))))) (k1 : ¬ p → awpL X all rest Q (s1.put d (.d (.bool true)))) (k2 : p → awpL X all rest Q (s1.put d (.d (.bool false)))) (hC : C := by first | exact ⟨rfl, trivial⟩ | exact ⟨trivial, rfl⟩) : awpL X all (⟨dst, .binOp bop bt bx by' bu, ty, pos, after, g⟩ :: rest) Q s := awpL_ndec hT h hC k1 k2
theorem sBool (hT : TabOk X.P T) {C : Prop} {b : Bool} {s1 : St} {d : Option Tmp} (h : evalS T X.N all s o = some (C, s1.put d (.d (.bool b)))) (k1 : b = true → awpL X all rest Q (s1.put d (.d (.bool true)))) (k2 : b = false → awpL X all rest Q (s1.put d (.d (.bool false)))) (hC : C := by first | exact ⟨trivial, rfl⟩ | exact ⟨trivial, trivial⟩ | exact ⟨rfl, trivial⟩) : awpL X all (o :: rest) Q s := awpL_bool hT h hC k1 k2
theorem sNot {uo : UnOp} {bt : TypeId} {bx : Operand} (hT : TabOk X.P T) {C : Prop} {b : Bool} {s1 : St} {d : Option Tmp} (h : evalS T X.N all s ⟨dst, .unOp uo bt bx, ty, pos, after, g⟩ = some (C, s1.put d (.d (.bool !b)))) (k1 : b = false → awpL X all rest Q (s1.put d (.d (.bool true)))) (k2 : b = true → awpL X all rest Q (s1.put d (.d (.bool false)))) (hC : C := by exact trivial) : awpL X all (⟨dst, .unOp uo bt bx, ty, pos, after, g⟩ :: rest) Q s := awpL_not hT h hC k1 k2
theorem sLdu {bt : TypeId} {bx : Operand} (hT : TabOk X.P T) {l : List Nat} {i j : Nat} {s1 : St} {d : Option Tmp} (h : evalS T X.N all s ⟨dst, .load bt bx, ty, pos, after, g⟩ = some (i < (l.map u32).length, s1.put d (.d ((l.map u32).getD i .undef)))) (hi : i = j) (k : awpL X all rest Q (s1.put d (.d (u32 (l.getD j 0))))) (hj : j < l.length := by omega) : awpL X all (⟨dst, .load bt bx, ty, pos, after, g⟩ :: rest) Q s := awpL_ldu hT h hi hj k
theorem sTake {bt : TypeId} {bx : Operand} {lo hi mx : Option Operand} (hT : TabOk X.P T) {l : List Nat} {h : Int} {sz : Nat} {C : Prop} {s1 : St} {d : Option Tmp} (he : evalS T X.N all s ⟨dst, .slice bt bx lo hi mx, ty, pos, after, g⟩ = some (C, s1.put d (.d (.sl h.toNat ((l.map u32).take (h.toNat * sz)))))) (hsz : sz = 1) (k : awpL X all rest Q (s1.put d (.d (u32s (l.take h.toNat))))) (hC : C := by omega) (hl : h.toNat ≤ l.length := by omega) : awpL X all (⟨dst, .slice bt bx lo hi mx, ty, pos, after, g⟩ :: rest) Q s := awpL_sltake hT he hC hsz rfl hl k
theorem sDrop {bt : TypeId} {bx : Operand} {lo hi mx : Option Operand} (hT : TabOk X.P T) {l : List Nat} {h : Int} {sz : Nat} {C : Prop} {s1 : St} {d : Option Tmp} (he : evalS T X.N all s ⟨dst, .slice bt bx lo hi mx, ty, pos, after, g⟩ = some (C, s1.put d (.d (.sl ((l.length : Int) - h).toNat (((l.map u32).drop (h.toNat * sz)).take (((l.length : Int) - h).toNat * sz)))))) (hsz : sz = 1) (k : awpL X all rest Q (s1.put d (.d (u32s (l.drop h.toNat))))) (hC : C := by omega) (h0 : 0 ≤ h := by omega) (hl : h.toNat ≤ l.length := by omega) : awpL X all (⟨dst, .slice bt bx lo hi mx, ty, pos, after, g⟩ :: rest) Q s := awpL_sldrop hT he hC hsz h0 rfl hl k
theorem sApp {c : Call} (hT : TabOk X.P T) {l : List Nat} {k : Nat} {e : TypeId} {x : Int} {s1 : St} {d : Option Tmp}
    (h : evalS T X.N all s ⟨dst, .call c, ty, pos, after, g⟩ = some (l.length * 1 = (l.map u32).length ∧ 1 * 1 = [D.int .u32 x].length ∧ l.length + 1 ≤ maxLen ∧ (l.length + 1) * 4 ≤ 140737488355328, (s1.new k (.data e (l.map u32 ++ [D.int .u32 x]))).put d (.own k (l.length + 1) e 1)))
    (K : awpL X all rest Q ((s1.new k (.data e ((l ++ [x.toNat]).map u32))).put d (.own k (l ++ [x.toNat]).length e 1))) (hx : 0 ≤ x := by omega) (hl : l.length < 10000000000000 := by omega) : awpL X all (⟨dst, .call c, ty, pos, after, g⟩ :: rest) Q s := awpL_app32 hT h hx hl rfl K
theorem sApp0 {c : Call} (hT : TabOk X.P T) {l : List Nat} {k : Nat} {e : TypeId} {s1 : St} {d : Option Tmp}
    (h : evalS T X.N all s ⟨dst, .call c, ty, pos, after, g⟩ = some (l.length * 1 = (l.map u32).length ∧ l.length ≤ maxLen ∧ l.length * 4 ≤ 140737488355328, (s1.new k (.data e (l.map u32))).put d (.own k l.length e 1)))
    (K : awpL X all rest Q ((s1.new k (.data e (l.map u32))).put d (.own k l.length e 1))) (hl : l.length < 10000000000000 := by omega) : awpL X all (⟨dst, .call c, ty, pos, after, g⟩ :: rest) Q s := awpL_app0 hT h hl K
theorem sMk {bt : TypeId} {bx by' : Operand} (hT : TabOk X.P T) {n k : Nat} {a : Int} {e : TypeId} {s1 : St} {d : Option Tmp}
    (h : evalS T X.N all s ⟨dst, .makeSlice bt bx by', ty, pos, after, g⟩ = some (0 ≤ a ∧ a ≤ a ∧ a ≤ (maxLen : Nat) ∧ a * (4 : Nat) ≤ 140737488355328, (s1.new k (.data e (List.replicate a.toNat [D.int .u32 0]).flatten)).put d (.own k a.toNat e 1)))
    (hn : a.toNat = n) (K : awpL X all rest Q ((s1.new k (.data e ((List.replicate n 0).map u32))).put d (.own k (List.replicate n 0).length e 1))) (h0 : 0 ≤ a := by omega) (h1 : a < 10000000000000 := by omega) : awpL X all (⟨dst, .makeSlice bt bx by', ty, pos, after, g⟩ :: rest) Q s := awpL_mk32 hT h h0 h1 hn K
theorem sSt {bt : TypeId} {bx by' : Operand} (hT : TabOk X.P T) {l : List Nat} {i k : Nat} {e : TypeId} {x : Int} {s1 : St}
    (h : evalS T X.N all s ⟨none, .store bt bx by', ty, pos, after, g⟩ = some (i + 1 ≤ (l.map u32).length ∧ [D.int .u32 x].length = 1, s1.withBlk k (.data e (splice (l.map u32) i [D.int .u32 x])))) {j : Nat} (hi : i = j)
    (K : awpL X all rest Q (s1.withBlk k (.data e ((l.set j x.toNat).map u32)))) (hj : j < l.length := by omega) (hx : 0 ≤ x := by omega) : awpL X all (⟨none, .store bt bx by', ty, pos, after, g⟩ :: rest) Q s := awpL_st32 hT h hi hj hx rfl K
end

section
variable {P : Program} {T : TypeId → Option TyD} {N : Nat} {all : Array Oper} {s s1 : St} {o : Oper} {l : List Oper}
theorem mOff (h : dstOk N o.dst = true) (hg : gd all s o = some false) (k : MRun P T N all l (s.put o.dst (.d (.tup []))) s1) : MRun P T N all (o :: l) s s1 := MRun.cons rfl h (.off hg) k
theorem mQuiet {C : Prop} {x : V} (h : dstOk N o.dst = true) (hg : gd all s o = some true) (hq : evalQF T s o.op = some (C, x)) (k : MRun P T N all l (s.put o.dst x) s1) (hC : C := by first | exact trivial | exact ⟨trivial, rfl⟩ | exact Nat.le_of_ble_eq_true rfl | exact ⟨Nat.le_of_ble_eq_true rfl, rfl⟩ | exact ⟨trivial, trivial⟩ | exact ⟨rfl, trivial⟩ | exact ⟨⟨rfl, by omega⟩, trivial⟩ | exact ⟨by omega, trivial⟩ | exact ⟨by decide, trivial⟩ | decide | omega) : MRun P T N all (o :: l) s s1 := MRun.cons rfl h (.quiet hg hq hC) k
theorem mWrap {C : Prop} {kd : IntKind} {e : Int} (h : dstOk N o.dst = true) (hg : gd all s o = some true) (hq : evalQF T s o.op = some (C, .d (.int kd (kd.wrap e)))) (k : MRun P T N all l (s.put o.dst (.d (.int kd e))) s1) (hC : C := by first | exact ⟨rfl, trivial⟩ | exact trivial) (hl : lim kd e := by (show _ ≤ _ ∧ _ < _; omega)) : MRun P T N all (o :: l) s s1 := MRun.cons rfl h (.wrap hg hq hC (wrap_lim hl)) k
theorem mLdu {m : List Nat} {i j : Nat} (h : dstOk N o.dst = true) (hg : gd all s o = some true) (hq : evalQF T s o.op = some (i < (m.map u32).length, .d ((m.map u32).getD i .undef))) (hi : i = j) (k : MRun P T N all l (s.put o.dst (.d (u32 (m.getD j 0)))) s1) (hj : j < m.length := by omega) : MRun P T N all (o :: l) s s1 := MRun.cons rfl h (.ldu hg hq hi hj) k
theorem mLit {x : D} (h : dstOk N o.dst = true) (hg : gd all s o = some true) (hq : evalB T s o.op = some x) (k : MRun P T N all l (s.put o.dst (.d x)) s1) : MRun P T N all (o :: l) s s1 := MRun.cons rfl h (.lit hg hq) k
end
end Go.Ab
