/-
  Contracts of functions of the program, and the layer that they are walked with: VPn VPd VGo VPg G01 VV VU VT VCl VZ VUd VS G02 TmC G03 G04 G05 FmA. Conditions: as each says.
-/
import Derived.WalkSmall
import Derived.Recover
import Derived.Laws.Build
import Derived.Laws.Tables
import Derived.Test.YtjooknpgcjicbaaA04
set_option linter.unnecessarySimpa false
/-
  Panics: contracts of functions that end in one, and the steps that lead to one. Conditions: the table of types is the program's.
-/
set_option linter.unusedSimpArgs false
set_option linter.unusedVariables false
set_option linter.unusedSectionVars false
namespace Go.Vw
open Go.RowKit

def D.val1 : D → Value
  | .bool b => .bool b
  | .int k n => .int k n
  | .str s => .string ⟨s.toArray⟩
  | _ => .bool false
def D.val : D → Value
  | .agg cs => .agg (cs.map D.val1).toArray
  | x => x.val1
def D.plain1 : D → Bool
  | .bool _ => true
  | .int _ _ => true
  | .str _ => true
  | _ => false
def D.plain : D → Bool
  | .agg cs => cs.all D.plain1
  | x => x.plain1
section
variable {F : Nat → Prop} {w : World}
theorem DR.val1 {x : D} {v : Value} (e : x.plain1 = true) (h : DR F w x v) : v = x.val1 := by
  cases x <;> first | (cases e; done) | (simp only [DR] at h; simp only [D.val1]; exact h)
theorem DR.of1 {x : D} (e : x.plain1 = true) : DR F w x x.val1 ∧ x.val1.oneCell' = true := by
  cases x <;> first | (cases e; done) | (simp only [DR, D.val1]; exact ⟨trivial, rfl⟩)
theorem DR.val {x : D} {v : Value} (e : x.plain = true) (h : DR F w x v) : v = x.val := by
  cases x with
  | agg cs =>
    simp only [D.plain] at e
    simp only [DR] at h
    obtain ⟨arr, rfl, hl, ha⟩ := h
    rw [DRA_iff] at ha
    simp only [D.val]
    congr 1
    apply Array.ext
    · simp [hl]
    · intro i h1 h2
      have hi : i < cs.length := by omega
      obtain ⟨u, g1, _, g2⟩ := ha i cs[i] (List.getElem?_eq_getElem hi)
      simp only [Nat.zero_add] at g1
      rw [Array.getElem?_eq_getElem h1, Option.some.injEq] at g1
      rw [g1, DR.val1 (List.all_eq_true.1 e _ (List.getElem_mem hi)) g2]
      simp
  | _ => exact DR.val1 (by simpa only [D.plain] using e) h
theorem DR.ofVal {x : D} (e : x.plain = true) : DR F w x x.val := by
  cases x with
  | agg cs =>
    simp only [D.plain] at e
    simp only [DR, D.val]
    refine ⟨_, rfl, by simp, ?_⟩
    rw [DRA_iff]
    intro i c hi
    obtain ⟨hlt, hc⟩ := List.getElem?_eq_some_iff.1 hi
    have := DR.of1 (F := F) (w := w) (List.all_eq_true.1 e c (hc ▸ List.getElem_mem hlt))
    refine ⟨c.val1, ?_, this.2, this.1⟩
    simp [hlt, hc]
  | _ => exact (DR.of1 (by simpa only [D.plain] using e)).1
end

abbrev thrown (u : Value) : List PanicEntry := [{ v := u, recovered := false }]

structure PanB (P : Program) (f : FuncId) (xs : List V) (B : Nat → Option Blk) (u : Value) : Prop where
  enters : Enters P f
  run : ∀ (io : Nat → Option Nat) (F : Nat → Prop) (w : World) (vs : Array Value), (∀ b, F b → b < w.heap.size) → vs.size = xs.length → VRT ⟨io, lnO B⟩ F w (fun i => vs[i]?) 0 xs → BsR (OwnA B io) w.heap.size io F w B →
    Calls P f vs w fun e w' => e = .panicked (thrown u) ∧ Kept (OwnA B io) w w'

/-! ## The state behind a panic of a callee -/

theorem SR.lose1 {X : Ctx} {io : Nat → Option Nat} {F : Nat → Prop} {s : St} {a : Act} {w : World} (hs : SR X io F s a w) (k : Nat) : SR X io F (s.sub k none) a w := by
  have h0 : SR { X with K := [] } io F s a w := ⟨hs.kept, hs.tm, hs.nt, hs.df, hs.bl, hs.inj, hs.ff, hs.f0, fun _ h => by simp at h⟩
  have h1 := h0.kill k (io k) (by simp)
  have e : updio io k (io k) = io := by
    funext j
    by_cases h : j = k
    · subst h; exact updio_same _ _ _
    · exact updio_ne _ _ h
  rw [e] at h1
  exact ⟨h1.kept, h1.tm, h1.nt, h1.df, h1.bl, h1.inj, h1.ff, h1.f0, hs.st⟩
theorem SR.loses {X : Ctx} {io : Nat → Option Nat} {F : Nat → Prop} {s : St} {a : Act} {w : World} (hs : SR X io F s a w) : ∀ ks : List Nat, SR X io F (s.subs ks) a w
  | [] => hs
  | k :: r => (hs.loses r).lose1 k
theorem SR.later {X : Ctx} {io : Nat → Option Nat} {F : Nat → Prop} {s : St} {a : Act} {w w' : World} (hs : SR X io F s a w) {A' : Nat → Prop} (g : Kept A' w w') (hA : ∀ c, A' c → (X.A c ∨ X.w0.heap.size ≤ c) ∧ ¬ F c) (ho : ∀ j c, s.blk j ≠ none → io j = some c → ¬ A' c) : SR X io F s a w' := by
  have hst : Stays F w w' := fun b h => g.block b (hs.ff b h).1 (fun h' => (hA b h').2 h)
  have hi : ∀ k, (s.keys io).io k = (s.keys io).io k ∧ (s.keys io).ln k ≤ (s.keys io).ln k := fun k => ⟨rfl, Nat.le_refl _⟩
  refine ⟨⟨g.os.trans hs.kept.os, g.tape.trans hs.kept.tape, g.output.trans hs.kept.output, Nat.le_trans hs.kept.size g.size, fun b e1 e2 => ?_, hs.kept.shape.trans g.shape⟩, fun t => VR.mono hi (fun _ h => h) hst g.shape _ _ (hs.tm t), hs.nt, DfR.mono hi (fun _ h => h) hst g.shape _ _ hs.df, fun k b hk => ?_, hs.inj, fun b hb => ⟨Nat.lt_of_lt_of_le (hs.ff b hb).1 g.size, (hs.ff b hb).2⟩, hs.f0, hs.st⟩
  · rw [g.block b (Nat.lt_of_lt_of_le e1 hs.kept.size) (fun h => by rcases (hA b h).1 with h | h; exact e2 h; omega)]
    exact hs.kept.block b e1 e2
  · refine BR.mono hi (fun _ h => h) hst g.shape (fun c o' e1 e2 e3 => ?_) (hs.bl k b hk)
    exact ⟨(g.block c (lt_of_heap e2) (ho k c (by rw [hk]; simp) e1)).trans e2, e3⟩

section
variable {X : Ctx} {all : Array Oper} {Q : Exit → St → Prop} {s : St} {o : Oper} {rest : List Oper}
theorem clP (f : FuncId) {c : Call} {caps : List V} {xs : List V} {bs : List (Nat × Blk)} {u : Value} (hr : PanB X.P f xs (lookB bs) u) (hcf : calleeIs s o.op f = true) (hop : o.op = .call c) (hc : calleeOf s c = some (f, caps)) (hg : gd all s o = some true) (hcov : (keysOk bs (V.refsL xs) && coverR bs bs) = true) (le : LeVT (c.args.toList.map s.opd ++ caps) xs) (hB : AllB s bs) (k : Q (.panic (thrown u)) (s.subs (bs.map (·.1)))) : awpL X all (o :: rest) Q s := fun io F a w hs => by
  simp only [Bool.and_eq_true] at hcov
  obtain ⟨c1, c2⟩ := hcov
  refine wpList_cons ?_
  obtain ⟨vs, h1, h2, h3⟩ := run_call (P := X.P) (operands_of (all := all) (fun t _ => hs.tm t)) hop hc hr.enters
  unfold opWp
  rw [if_pos (gd_sound (fun t _ => hs.tm t) hg)]; left
  unfold Oper.wp; rw [h1]
  simp only [Oper.upon]
  have hB' : ∀ k b, lookB bs k = some b → s.blk k = some b := fun k b hk => (lookB_of hB k b hk).1
  have hln : ∀ k, lookB bs k ≠ none → s.ln k ≤ lnO (lookB bs) k := fun k hk => by
    obtain ⟨b, hb⟩ := Option.ne_none_iff_exists'.1 hk
    rw [lnO_of hb, ln_of (hB' k b hb)]; exact Nat.le_refl _
  have hargs : VRT ⟨io, lnO (lookB bs)⟩ F w (fun i => vs[i]?) 0 xs := VRT.agree (io := s.keys io) _ _ _ (fun k hk => ⟨rfl, hln k (hasKey_ne (keysOk_spec c1 k hk))⟩) (le.2 _ _ _ _ _ h3)
  have hbl := hs.lendB hB' (fun k b hk j hj => coverR_spec c2 _ (lookB_mem hk) j hj)
  refine (hr.run io F w vs (fun b h => (hs.ff b h).1) (by rw [h2, le.1]) hargs hbl).mono fun e w' ⟨he, g⟩ => ?_
  subst he
  refine ⟨_, io, F, k, (hs.loses (bs.map (·.1))).later g (fun c ⟨k, hk, e⟩ => ?_) (fun j c hj e ⟨k, hk, e'⟩ => ?_)⟩
  · obtain ⟨b, hb⟩ := Option.ne_none_iff_exists'.1 hk
    have := (hs.bl k b (hB' k b hb)).notF e
    exact ⟨this.2.1, this.1⟩
  · obtain ⟨b0, hb0⟩ := Option.ne_none_iff_exists'.1 hj
    obtain ⟨q1, b1, q2⟩ := subs_blk _ hb0
    obtain ⟨b, hb⟩ := Option.ne_none_iff_exists'.1 hk
    have := hs.inj j k c (by rw [q2]; simp) (by rw [hB' k b hb]; simp) e e'
    subst this
    exact q1 (List.mem_map.2 ⟨_, lookB_mem hb, rfl⟩)
theorem stepPanic {x : Operand} {t : TypeId} {y : D} (hop : o.op = .panic x) (hx : s.opd x = .d (.ifc t y)) (hy : y.plain = true) (hg : gd all s o = some true) (k : Q (.panic (thrown (.iface t y.val))) s) : awpL X all (o :: rest) Q s := fun io F a w hs => by
  refine wpList_cons ?_
  unfold opWp
  rw [if_pos (gd_sound (fun t _ => hs.tm t) hg)]; left
  have h := hs.opd x
  rw [hx] at h
  simp only [VR, DR] at h
  obtain ⟨u, e, h⟩ := h
  have := DR.val hy h
  subst this
  have hr : (execOp a.eval o).run X.P w = .halt (.panic (.iface t y.val)) w := by
    simp only [execOp, hop, e, Sem.run_bind, run_panic_iface, Result.andThen]
  unfold Oper.wp; rw [hr]
  exact ⟨s, io, F, k, hs⟩
end

/-! ## How a function ends -/

inductive Out : Type 1 where
  | ret (y : V) (bs' : List (Nat × Blk))
  | pan (u : Value)
def OutB (P : Program) (f : FuncId) (xs : List V) (bs : List (Nat × Blk)) : Out → Prop
  | .ret y bs' => RetB P f xs (lookB bs) y (lookB bs')
  | .pan u => PanB P f xs (lookB bs) u
def outPost (T : TypeId → Option TyD) (fn : Func) : Out → Exit → St → Prop
  | .ret y bs', e, s => retPostB T fn y bs' e s
  | .pan u, .panic c, s => c = thrown u ∧ s.dfs = []
  | .pan _, _, _ => False
theorem panB_of_awp {P : Program} {T : TypeId → Option TyD} (hT : TabOk P T) {f : FuncId} {fn : Func} {c : Code} (ks : List Nat) (hf : P.funcs[f]? = some fn) (hname : (fn.name == "runtime.NumGoroutine") = false) (hb : fn.body = some c) {xs : List V} {bs : List (Nat × Blk)} {u : Value} (hn : xs.length ≤ fn.ntmps)
    (h : ∀ w0 F0 A io0, awp ⟨P, T, hT, fn.ntmps, w0, A, F0, ks, io0⟩ c (outPost T fn (.pan u)) (St.initB xs bs)) : PanB P f xs (lookB bs) u := by
  refine ⟨⟨fn, hf, hname, by rw [hb]; rfl⟩, fun io F w vs hF hl hv hbs => ?_⟩
  refine calls_of_wp hf hb ?_
  refine wp_mono (h w F _ io io F _ w (sr_initB hT (ks := ks) hl hn hF hv hbs)) fun e a' w' ⟨s', io', F', hq, hs'⟩ => ?_
  cases e <;> simp only [outPost] at hq <;> first | exact hq.elim | skip
  obtain ⟨rfl, hd⟩ := hq
  have hdf := hs'.df
  rw [hd] at hdf
  exact ⟨hdf, rfl, hs'.kept⟩
def coverO (ks : List Nat) : Out → Bool
  | .ret y bs' => keysOk bs' ks && keysOk bs' y.refs && coverR bs' bs'
  | .pan _ => true
def LnO (bs : List (Nat × Blk)) : Out → Prop
  | .ret y bs' => LnLe bs' bs
  | .pan _ => True
theorem outB_of_awp {P : Program} {T : TypeId → Option TyD} (hT : TabOk P T) {f : FuncId} {fn : Func} {c : Code} (ks : List Nat) (hf : P.funcs[f]? = some fn) (hname : (fn.name == "runtime.NumGoroutine") = false) (hb : fn.body = some c) {xs : List V} {bs : List (Nat × Blk)} {o : Out} (hks : bs.map (·.1) = ks) (hn : xs.length ≤ fn.ntmps) (hcov : coverO ks o = true) (hln : LnO bs o)
    (h : ∀ w0 F0 A io0, awp ⟨P, T, hT, fn.ntmps, w0, A, F0, ks, io0⟩ c (outPost T fn o) (St.initB xs bs)) : OutB P f xs bs o := by
  cases o with
  | ret y bs' => exact retB_of_awp hT ks hf hname hb hks hn hcov hln h
  | pan u => exact panB_of_awp hT ks hf hname hb hn h
end Go.Vw

/-
  Deferred closures that recover: their contracts, and functions that put one off. Conditions: the table of types is the program's.
-/
namespace Go.Vw
open Go.RowKit

theorem VRA.toT {io : Keys} {F : Nat → Prop} {w : World} {g : Nat → Option Value} : ∀ {cs : List V} {off : Nat}, VRA io F w g off cs → VRT io F w g off cs
  | [], _, _ => by simp only [VRT]
  | c :: cs, off, h => by
    simp only [VRA] at h
    simp only [VRT]
    obtain ⟨⟨v, e, _, h1⟩, h2⟩ := h
    exact ⟨⟨v, e, h1⟩, VRA.toT h2⟩

section
variable {X : Ctx} {all : Array Oper} {Q : Exit → St → Prop} {s : St} {o : Oper} {rest : List Oper}
theorem stepDefer {c : Call} {y : Operand} {g : FuncId} {caps : List V} (hop : o.op = .defer c) (hc : c.callee = .value y) (hy : s.opd y = .fn g caps) (ha : c.args = #[]) (hdst : o.dst = none) (hg : gd all s o = some true) (k : awpL X all rest Q { s with dfs := (g, caps) :: s.dfs }) : awpL X all (o :: rest) Q s := fun io F a w hs => by
  refine wpList_cons ?_
  unfold opWp
  rw [if_pos (gd_sound (fun t _ => hs.tm t) hg)]; left
  have h := hs.opd y
  rw [hy] at h
  simp only [VR] at h
  obtain ⟨arr, e, hl, hv⟩ := h
  have hr : (execOp a.eval o).run X.P w = .ok (.defer { target := .fn (.func g) arr, args := #[] }) w := by
    simp [execOp, hop, resolve, hc, e, ha, Deferred.ofValue, Sem.run_bind, Sem.run_pure, Result.andThen]
  unfold Oper.wp; rw [hr]
  simp only [Oper.upon, hdst, Act.put]
  exact k io F _ w ⟨hs.kept, hs.tm, hs.nt, ⟨arr, a.defers, rfl, hl, hv, hs.df⟩, hs.bl, hs.inj, hs.ff, hs.f0, hs.st⟩
def isIfcD : TypeDesc → Bool
  | .interface _ => true
  | _ => false
theorem stepIfc {t : TypeId} {x : Operand} {y : D} {d : Tmp} (hop : o.op = .makeInterface t x) (hy : s.opd x = .d y) (hdst : o.dst = some d) (ht : (match X.T t with | some td => !(isIfcD td.desc) | none => false) = true) (hg : gd all s o = some true) (hd : dstOk X.N (some d) = true) (k : awpL X all rest Q (s.put (some d) (.d (.ifc t y)))) : awpL X all (o :: rest) Q s := fun io F a w hs => by
  refine wpList_cons ?_
  have h := hs.opd x
  rw [hy] at h
  simp only [VR] at h
  have hcon : X.P.concrete t = true := by
    cases htd : X.T t with
    | none => rw [htd] at ht; cases ht
    | some td =>
      rw [htd] at ht
      have hu := (X.ok t td htd).und
      unfold Program.concrete
      rw [hu]
      simp only at ht
      cases hd : td.desc with
      | interface ms => rw [hd] at ht; cases ht
      | _ => rfl
  have hr : (execOp a.eval o).run X.P w = .ok (.value (.iface t (a.eval x))) w := by
    simp only [execOp, hop, Sem.run_bind, run_makeInterface w t _ hcon, Result.andThen_ok, Sem.run_pure]
  refine opWp_value (gd_sound (fun t _ => hs.tm t) hg) hr ?_
  rw [hdst]
  exact k io F _ w (hs.put (fun d' e => by cases e; exact dstOk_sound hd d rfl) (by simp only [VR, DR]; exact ⟨_, rfl, h⟩))
end

structure DefC (P : Program) (g : FuncId) (caps : List V) (bs : List (Nat × Blk)) (u u' : FrameMode) (bs' : List (Nat × Blk)) : Prop where
  enters : Enters P g
  run : ∀ (io : Nat → Option Nat) (F : Nat → Prop) (w : World) (vs : Array Value), (∀ b, F b → b < w.heap.size) → vs.size = caps.length → VRT ⟨io, lnO (lookB bs)⟩ F w (fun i => vs[i]?) 0 caps → BsR (OwnA (lookB bs) io) w.heap.size io F w (lookB bs) →
    CallsD P g vs u w fun e u2 w' => u2 = u' ∧ RetPost io F w bs (.tup []) bs' e w'
  keep : ∀ k, lookB bs k ≠ none → lookB bs' k ≠ none
  ln : ∀ k, lookB bs k ≠ none → lnO (lookB bs) k ≤ lnO (lookB bs') k
  refsB : ∀ k b, lookB bs' k = some b → ∀ j ∈ b.refs, lookB bs' j ≠ none

inductive Rcv : FrameMode → D → FrameMode → Prop where
  | nil : Rcv .returning (.raw .nilIface) .returning
  | got {t : TypeId} {x : D} (h : x.plain = true) : Rcv (.panicking (thrown (.iface t x.val))) (.ifc t x) (.panicking [{ v := .iface t x.val, recovered := true }])


theorem recover_run {P : Program} {ev : Operand → Value} {o : Oper} {w : World} {ty : Array TypeId} (hop : o.op = .call { callee := .builtin .recover, args := #[], argTypes := ty }) : (execOp ev o).run P w = .ok .recover w := by
  simp [execOp, hop, resolve, invoke, builtin, Sem.run_bind, Sem.run_pure, Result.andThen]

theorem defC_of_awp {P : Program} {T : TypeId → Option TyD} (hT : TabOk P T) {g : FuncId} {fn : Func} {rest : Code} {o : Oper} {id : Nat} {d : Tmp} {ty : Array TypeId} (ks : List Nat) (hf : P.funcs[g]? = some fn) (hname : (fn.name == "runtime.NumGoroutine") = false) (hb : fn.body = some (.seq (.region id #[o] false) rest)) (hop : o.op = .call { callee := .builtin .recover, args := #[], argTypes := ty }) (hgu : o.guard = none) (hdst : o.dst = some d) (hd : Nat.blt d fn.ntmps = true) {caps : List V} {bs bs' : List (Nat × Blk)} {x : D} {u u' : FrameMode} (hu : Rcv u x u') (hks : bs.map (·.1) = ks) (hn : caps.length ≤ fn.ntmps) (hcov : (keysOk bs' ks && coverR bs' bs') = true) (hln : LnLe bs' bs)
    (h : ∀ w0 F0 A io0, awp ⟨P, T, hT, fn.ntmps, w0, A, F0, ks, io0⟩ rest (retPostB T fn (.tup []) bs') ((St.initB caps bs).put (some d) (.d x))) : DefC P g caps bs u u' bs' := by
  have hcov2 := hcov
  simp only [Bool.and_eq_true] at hcov
  obtain ⟨c1, c3⟩ := hcov
  have hkey : ∀ k, lookB bs k ≠ none → k ∈ ks := fun k hk => by
    obtain ⟨b, hb⟩ := Option.ne_none_iff_exists'.1 hk
    rw [← hks]; exact List.mem_map.2 ⟨_, lookB_mem hb, rfl⟩
  refine ⟨⟨fn, hf, hname, by rw [hb]; rfl⟩, fun io F w vs hF hl hv hbs => ?_, fun k hk => hasKey_ne (keysOk_spec c1 k (hkey k hk)), fun k hk => ?_, fun k b hk j hj => coverR_spec c3 _ (lookB_mem hk) j hj⟩
  · refine callsD_of_wpS hf hb fun c₀ cs hc₀ => ?_
    have hwant : ∀ m, Region.wanted o m = true := fun m => by unfold Region.wanted; rw [hgu]
    -- what the rest does, from the state behind recover
    have main : ∀ (v : Value) (c₁ : Frame), (∀ F w, DR F w x v) → c₁ = { c₀ with mode := u' } → rest.wpS P (bodyPostS P fn c₀ cs fun e u2 w' => u2 = u' ∧ RetPost io F w bs (.tup []) bs' e w') (Act.put { tmps := vs ++ Array.replicate (fn.ntmps - vs.size) undef, defers := [] } o.dst v) (c₁ :: cs) w := fun v c₁ hvx hc₁ => by
      refine wpS_of_wp ?_
      have hs0 := sr_initB hT (ks := ks) hl hn hF hv hbs
      have hs1 := hs0.put (dst := o.dst) (x := .d x) (v := v) (fun e' he => by rw [hdst] at he; cases he; simpa [Nat.blt_eq] using hd) (by simp only [VR]; exact hvx _ _)
      rw [hdst] at hs1 ⊢
      refine wp_mono (h w F _ io io F _ w hs1) fun e a' w' ⟨s', io', F', hq, hs'⟩ => ?_
      have fin := fun hq => retB_fin (fn := fn) (y := .tup []) hks (by simp only [V.refs, V.refsL, keysOk, Bool.and_true]; exact hcov2) hs' hq
      cases e <;> simp only [retPostB] at hq <;> first | exact hq.elim | skip
      all_goals
        obtain ⟨q1, vv, q2, q3⟩ := fin hq
        exact ⟨q1, u', by rw [hc₁], vv, q2, rfl, q3⟩
    refine wpS_seq (wpS_region ?_)
    have hr := fun a : Act => recover_run (P := P) (ev := a.eval) (w := w) hop
    show wpOpsS P #[o] _ [0] _ _ _
    simp only [wpOpsS, List.getElem?_toArray, List.getElem?_cons_zero, hr]
    cases hu with
    | nil =>
      have : recoverD (c₀ :: cs) = none := by unfold recoverD; simp only; rw [hc₀]
      rw [this, if_pos (hwant _)]
      exact main .nilIface c₀ (fun F w => by simp only [DR]) (by rw [← hc₀])
    | @got t x hx =>
      have : recoverD (c₀ :: cs) = some (.iface t x.val, { c₀ with mode := .panicking [{ v := .iface t x.val, recovered := true }] } :: cs) := by unfold recoverD; simp only; rw [hc₀]
      rw [this, if_pos (hwant _)]
      exact main _ _ (fun F w => by simp only [DR]; exact ⟨_, rfl, DR.ofVal hx⟩) rfl
  · obtain ⟨b, hb⟩ := Option.ne_none_iff_exists'.1 hk
    rw [lnO_of hb]
    exact LnLe_spec hln _ (lookB_mem hb)

/-! ## A function that puts off a closure -/

end Go.Vw

/-
  The walk's steps under one name (made by tools/genvgo.py). Conditions: as each rule says.
-/
namespace Go.Vw

section
variable {ex : Bool} {X : Ctx} {all : Array Oper} {Q : Exit → St → Prop} {s : St} {o : Oper} {pre rest : List Oper} {d : Tmp} {p : Prop} [Decidable p]
theorem gdLDT (hg : guardOf all o = some d) (hd : s.tmps d = .d (.bool (decide p))) (hp : p) : awpL X all (o :: rest) Q (s.put (some d) (.d (.bool true))) → awpL X all (o :: rest) Q s := fun h => gdLD hg hd (fun _ => h) (fun e => absurd hp e)
theorem gdLDF (hg : guardOf all o = some d) (hd : s.tmps d = .d (.bool (decide p))) (hp : ¬ p) : awpL X all (o :: rest) Q (s.put (some d) (.d (.bool false))) → awpL X all (o :: rest) Q s := fun h => gdLD hg hd (fun e => absurd e hp) (fun _ => h)
theorem gdLNT (hg : guardOf all o = some d) (hd : s.tmps d = .d (.bool (!decide p))) (hp : ¬ p) : awpL X all (o :: rest) Q (s.put (some d) (.d (.bool true))) → awpL X all (o :: rest) Q s := fun h => gdLN hg hd (fun _ => h) (fun e => absurd e hp)
theorem gdLNF (hg : guardOf all o = some d) (hd : s.tmps d = .d (.bool (!decide p))) (hp : p) : awpL X all (o :: rest) Q (s.put (some d) (.d (.bool false))) → awpL X all (o :: rest) Q s := fun h => gdLN hg hd (fun e => absurd hp e) (fun _ => h)
theorem gdRDT (hg : guardOf all o = some d) (hd : s.tmps d = .d (.bool (decide p))) (hp : p) : awpR ex X all (o :: pre) rest Q (s.put (some d) (.d (.bool true))) → awpR ex X all (o :: pre) rest Q s := fun h => gdRD hg hd (fun _ => h) (fun e => absurd hp e)
theorem gdRDF (hg : guardOf all o = some d) (hd : s.tmps d = .d (.bool (decide p))) (hp : ¬ p) : awpR ex X all (o :: pre) rest Q (s.put (some d) (.d (.bool false))) → awpR ex X all (o :: pre) rest Q s := fun h => gdRD hg hd (fun e => absurd e hp) (fun _ => h)
theorem gdRNT (hg : guardOf all o = some d) (hd : s.tmps d = .d (.bool (!decide p))) (hp : ¬ p) : awpR ex X all (o :: pre) rest Q (s.put (some d) (.d (.bool true))) → awpR ex X all (o :: pre) rest Q s := fun h => gdRN hg hd (fun _ => h) (fun e => absurd e hp)
theorem gdRNF (hg : guardOf all o = some d) (hd : s.tmps d = .d (.bool (!decide p))) (hp : p) : awpR ex X all (o :: pre) rest Q (s.put (some d) (.d (.bool false))) → awpR ex X all (o :: pre) rest Q s := fun h => gdRN hg hd (fun e => absurd hp e) (fun _ => h)
variable {c : Operand} {x y : Code}
theorem cdDT (hc : s.opd c = .d (.bool (decide p))) (hp : p) : awp X x Q s → awp X (.cond c x y) Q s := fun h => awp_condD hc (fun _ => h) (fun e => absurd hp e)
theorem cdDF (hc : s.opd c = .d (.bool (decide p))) (hp : ¬ p) : awp X y Q s → awp X (.cond c x y) Q s := fun h => awp_condD hc (fun e => absurd e hp) (fun _ => h)
theorem cdNT (hc : s.opd c = .d (.bool (!decide p))) (hp : ¬ p) : awp X x Q s → awp X (.cond c x y) Q s := fun h => awp_condN hc (fun _ => h) (fun e => absurd e hp)
theorem cdNF (hc : s.opd c = .d (.bool (!decide p))) (hp : p) : awp X y Q s → awp X (.cond c x y) Q s := fun h => awp_condN hc (fun e => absurd hp e) (fun _ => h)
end
theorem wG {G P : Prop} (k : G) (h : G → P := by
  first
  | (show _ → awpL _ _ _ _ _
     first
     | exact Go.Vw.stepQ true Go.Vw.tt Go.Vw.stt rfl rfl rfl Go.Vw.sc
     | exact Go.Vw.awpL_nil
     | exact Go.Vw.stepOff Go.Vw.sff rfl rfl
     | exact Go.Vw.stepStore Go.Vw.tt rfl rfl rfl rfl rfl rfl rfl rfl rfl Go.Vw.leL Go.Vw.sc
     | exact Go.Vw.stepStoreV Go.Vw.tt rfl rfl rfl rfl rfl rfl rfl rfl Go.Vw.sc
     | exact Go.Vw.stepAppF Go.Vw.tt rfl rfl rfl rfl rfl rfl rfl rfl rfl rfl rfl (Go.Vw.LeD.refl _) (Go.Vw.LeD.lit rfl (Go.Vw.LeR.cons rfl Go.Vw.leL Go.Vw.LeR.nil)) Go.Vw.sc
     | exact Go.Vw.stepAppF Go.Vw.tt rfl rfl rfl rfl rfl rfl rfl rfl rfl rfl rfl (Go.Vw.LeD.refl _) (Go.Vw.LeD.lit rfl Go.Vw.LeR.nil) Go.Vw.sc
     | exact Go.Vw.stepApp Go.Vw.tt rfl rfl rfl rfl rfl rfl rfl rfl rfl rfl rfl rfl Go.Vw.sc Go.Vw.srcOk Go.Vw.sc
     | exact Go.Vw.stepAppNil Go.Vw.tt rfl rfl rfl rfl rfl rfl rfl rfl rfl rfl rfl Go.Vw.srcZ Go.Vw.sc
     | exact Go.Vw.stepE1 Go.Vw.tt rfl rfl rfl rfl rfl
     | exact Go.Vw.stepE0 Go.Vw.tt rfl rfl rfl
     | exact Go.Vw.stepLitF Go.Vw.tt rfl Go.Vw.tt rfl rfl rfl
     | exact Go.Vw.stepLit Go.Vw.tt rfl rfl rfl rfl
     | exact Go.Vw.stepMake (mm := true) (en := Go.Vw.eN .u32) (z := 0) Go.Vw.tt rfl rfl rfl rfl rfl rfl rfl rfl rfl rfl rfl rfl Go.Vw.leL Go.Vw.sc Go.Vw.sc
     | exact Go.Vw.stepMake (mm := false) (en := Go.Vw.eN .u32) (z := 0) Go.Vw.tt rfl rfl rfl rfl rfl rfl rfl rfl rfl rfl rfl rfl Go.Vw.leL Go.Vw.sc Go.Vw.sc
     | exact Go.Vw.stepMake (mm := true) (en := Go.Vw.eI .i64) (z := 0) Go.Vw.tt rfl rfl rfl rfl rfl rfl rfl rfl rfl rfl rfl rfl Go.Vw.leL Go.Vw.sc Go.Vw.sc
     | exact Go.Vw.stepMake (mm := false) (en := Go.Vw.eI .i64) (z := 0) Go.Vw.tt rfl rfl rfl rfl rfl rfl rfl rfl rfl rfl rfl rfl Go.Vw.leL Go.Vw.sc Go.Vw.sc
     | exact Go.Vw.stepQ false Go.Vw.tt Go.Vw.stt rfl rfl rfl Go.Vw.sc
     | exact Go.Vw.stepB2S rfl rfl rfl rfl rfl rfl rfl rfl rfl rfl rfl (Go.Vw.LeD.refl _)
     | exact Go.Vw.stepB2SO rfl rfl rfl rfl rfl rfl rfl rfl rfl rfl rfl rfl
     | exact Go.Vw.stepS2B rfl rfl rfl rfl rfl rfl rfl rfl rfl rfl rfl
     | exact Go.Vw.stepB2S rfl rfl rfl rfl rfl rfl rfl rfl rfl rfl rfl (Go.Vw.LeD.lit rfl (Go.Vw.LeR.cons rfl Go.Vw.leL Go.Vw.LeR.nil))
     | exact Go.Vw.stepM0 Go.Vw.tt rfl (Go.Vw.m_q true rfl rfl Go.Vw.sc)
     | exact Go.Vw.gdLDT rfl rfl (by omega)
     | exact Go.Vw.gdLDF rfl rfl (by omega)
     | exact Go.Vw.gdLNT rfl rfl (by omega)
     | exact Go.Vw.gdLNF rfl rfl (by omega))
  | (show _ → awp _ _ _ _
     first
     | exact Go.Vw.awp_seq
     | exact Go.Vw.awp_region
     | exact Go.Vw.awp_block
     | exact Go.Vw.awp_condT rfl
     | exact Go.Vw.awp_condF rfl
     | exact Go.Vw.awp_skip
     | exact Go.Vw.awp_exit
     | exact Go.Vw.awp_ret
     | exact Go.Vw.cdDT rfl (by omega)
     | exact Go.Vw.cdDF rfl (by omega)
     | exact Go.Vw.cdNT rfl (by omega)
     | exact Go.Vw.cdNF rfl (by omega))
  | (show _ → andThen _ _ _ _
     first
     | exact Go.Vw.thenN
     | exact Go.Vw.thenX
     | exact Go.Vw.thenR)
  | (show _ → inBlock _ _ _ _
     first
     | exact Go.Vw.inN
     | exact Go.Vw.inX
     | exact Go.Vw.inY rfl
     | exact Go.Vw.inR)
  | (show _ → awpR _ _ _ _ _ _ _
     first
     | exact Go.Vw.stepRQ true Go.Vw.tt Go.Vw.stt rfl rfl rfl Go.Vw.sc rfl rfl
     | exact Go.Vw.awpR_nil
     | exact Go.Vw.stepROff Go.Vw.sff rfl rfl rfl
     | exact Go.Vw.stepRStore Go.Vw.tt rfl rfl rfl rfl rfl rfl rfl rfl rfl Go.Vw.leL Go.Vw.sc rfl rfl
     | exact Go.Vw.stepRStoreB Go.Vw.tt rfl rfl rfl rfl rfl rfl rfl rfl rfl rfl rfl rfl
     | exact Go.Vw.stepRAlloc Go.Vw.tt rfl rfl rfl rfl rfl rfl rfl rfl rfl
     | exact Go.Vw.stepRLitF Go.Vw.tt rfl Go.Vw.tt rfl rfl rfl
     | exact Go.Vw.stepRAppF Go.Vw.tt rfl rfl rfl rfl rfl rfl rfl rfl rfl rfl rfl (Go.Vw.LeD.refl _) (Go.Vw.LeD.lit rfl (Go.Vw.LeR.cons rfl Go.Vw.leL Go.Vw.LeR.nil)) Go.Vw.sc
     | exact Go.Vw.stepRAppF Go.Vw.tt rfl rfl rfl rfl rfl rfl rfl rfl rfl rfl rfl (Go.Vw.LeD.refl _) (Go.Vw.LeD.lit rfl Go.Vw.LeR.nil) Go.Vw.sc
     | exact Go.Vw.stepRLit Go.Vw.tt rfl rfl rfl rfl
     | exact Go.Vw.stepRQ false Go.Vw.tt Go.Vw.stt rfl rfl rfl Go.Vw.sc rfl rfl
     | exact Go.Vw.stepRB2S rfl rfl rfl rfl rfl rfl rfl rfl rfl rfl rfl (Go.Vw.LeD.refl _)
     | exact Go.Vw.stepRB2SO rfl rfl rfl rfl rfl rfl rfl rfl rfl rfl rfl rfl
     | exact Go.Vw.stepRS2B rfl rfl rfl rfl rfl rfl rfl rfl rfl rfl rfl
     | exact Go.Vw.stepRB2S rfl rfl rfl rfl rfl rfl rfl rfl rfl rfl rfl (Go.Vw.LeD.lit rfl (Go.Vw.LeR.cons rfl Go.Vw.leL Go.Vw.LeR.nil))
     | exact Go.Vw.gdRDT rfl rfl (by omega)
     | exact Go.Vw.gdRDF rfl rfl (by omega)
     | exact Go.Vw.gdRNT rfl rfl (by omega)
     | exact Go.Vw.gdRNF rfl rfl (by omega))
  | fail) : P := h k
theorem wS {G1 G2 P : Prop} (k1 : G1) (k2 : G2) (h : G1 → G2 → P := by
  first
  | (show _ → _ → awpL _ _ _ _ _
     first
     | exact Go.Vw.gdLD rfl rfl
     | exact Go.Vw.gdLN rfl rfl
     | exact Go.Vw.gdL rfl rfl)
  | (show _ → _ → awp _ _ _ _
     first
     | exact Go.Vw.awp_condD rfl
     | exact Go.Vw.awp_condN rfl
     | exact Go.Vw.awp_cond rfl)
  | (show _ → _ → awpR _ _ _ _ _ _ _
     first
     | exact Go.Vw.gdRD rfl rfl
     | exact Go.Vw.gdRN rfl rfl
     | exact Go.Vw.gdR rfl rfl)
  | fail) : P := h k1 k2
section
variable {ex : Bool} {X : Ctx} {all : Array Oper} {Q : Exit → St → Prop} {s : St} {o : Oper} {pre rest : List Oper} {c : Call} {caps : List V} {ds' : List D} {r : D}
theorem cl2 {Pg : Program} {s1 : St} {d : Tmp} {f : FuncId} (hcf : calleeIs s o.op f = true) (hop : o.op = .call c) (hc : calleeOf s c = some (f, caps)) (hdst : o.dst = some d) (h : CallE X all s s1 o f ds' r) (hP : X.P = Pg) : Ret Pg f ds' (· = r) → awpL X all rest Q (s1.put (some d) (.d r)) → awpL X all (o :: rest) Q s := fun hr k => cl f hcf hop hc hdst h (hP ▸ hr) k
theorem clR2 {Pg : Program} {d : Tmp} {f : FuncId} (hcf : calleeIs s o.op f = true) (hop : o.op = .call c) (hc : calleeOf s c = some (f, caps)) (hdst : o.dst = some d) (h : CallM X all s o f ds' r) (hd : dstOk X.N (some d) = true) (hP : X.P = Pg) : Ret Pg f ds' (· = r) → awpR ex X all pre rest Q (s.put (some d) (.d r)) → awpR ex X all (o :: pre) rest Q s := fun hr k => clR f hcf hop hc hdst h hd (hP ▸ hr) k
end
def FrI (_ : List Nat) : Prop := True
theorem clB2 {Pg : Program} {X : Ctx} {all : Array Oper} {s : St} {o : Oper} {Q : Exit → St → Prop} {rest : List Oper} {c : Call} {caps : List V} {d : Tmp} {f : FuncId} {fr : List Nat} {xs : List V} {bs bs' : List (Nat × Blk)} {y : V} (hcf : calleeIs s o.op f = true) (hop : o.op = .call c) (hc : calleeOf s c = some (f, caps)) (hdst : o.dst = some d) (hg : gd all s o = some true) (hd : dstOk X.N (some d) = true) (hcov : (keysOk bs (V.refsL xs) && coverR bs bs && keysIn bs fr bs' && freshOk X.K bs fr) = true) (le : LeVT (c.args.toList.map s.opd ++ caps) xs) (hB : AllB s bs) (hP : X.P = Pg) : FrI fr → RetB Pg f xs (lookB bs) y (lookB bs') → awpL X all rest Q (((s.subs fr).over bs').put (some d) y) → awpL X all (o :: rest) Q s := fun _ hr k => clB f fr (hP ▸ hr) hcf hop hc hdst hg hd hcov le hB k
theorem wC {Pg : Program} {f : FuncId} {ds' : List D} {r : D} {G P : Prop} (hr : Ret Pg f ds' (· = r)) (k : G) (h : Ret Pg f ds' (· = r) → G → P := by
  first
  | (show _ → _ → awpL _ _ _ _ _
     first
     | exact Go.Vw.cl2 Go.Vw.tt rfl rfl rfl (Go.Vw.callE_of rfl (Go.Vw.callM_plain rfl rfl rfl Go.Vw.tt rfl Go.Vw.leT)) rfl
     | exact Go.Vw.cl2 Go.Vw.tt rfl rfl rfl (Go.Vw.callE_of rfl (Go.Vw.callM_lent true rfl rfl rfl Go.Vw.ff Go.Vw.tt rfl Go.Vw.leT rfl Go.Vw.sc)) rfl
     | exact Go.Vw.cl2 Go.Vw.tt rfl rfl rfl (Go.Vw.callE_of rfl (Go.Vw.callM_lent false rfl rfl rfl Go.Vw.ff Go.Vw.tt rfl Go.Vw.leT rfl Go.Vw.sc)) rfl
     | exact Go.Vw.cl2 Go.Vw.tt rfl rfl rfl (Go.Vw.callE_frz rfl rfl Go.Vw.tt rfl rfl (Go.Vw.callE_of rfl (Go.Vw.callM_plain rfl rfl rfl Go.Vw.tt rfl Go.Vw.leT))) rfl
     | exact Go.Vw.cl2 Go.Vw.tt rfl rfl rfl (Go.Vw.callE_frz rfl rfl Go.Vw.tt rfl rfl (Go.Vw.callE_frz rfl rfl Go.Vw.tt rfl rfl (Go.Vw.callE_of rfl (Go.Vw.callM_plain rfl rfl rfl Go.Vw.tt rfl Go.Vw.leT)))) rfl
     | exact Go.Vw.cl2 (Nat.beq_refl _) rfl rfl rfl (Go.Vw.callE_of rfl (Go.Vw.callM_plain rfl rfl rfl Go.Vw.tt rfl Go.Vw.leT)) rfl
     | exact Go.Vw.cl2 (Nat.beq_refl _) rfl rfl rfl (Go.Vw.callE_of rfl (Go.Vw.callM_lent true rfl rfl rfl Go.Vw.ff Go.Vw.tt rfl Go.Vw.leT rfl Go.Vw.sc)) rfl
     | exact Go.Vw.cl2 (Nat.beq_refl _) rfl rfl rfl (Go.Vw.callE_of rfl (Go.Vw.callM_lent false rfl rfl rfl Go.Vw.ff Go.Vw.tt rfl Go.Vw.leT rfl Go.Vw.sc)) rfl
     | exact Go.Vw.cl2 (Nat.beq_refl _) rfl rfl rfl (Go.Vw.callE_frz rfl rfl Go.Vw.tt rfl rfl (Go.Vw.callE_of rfl (Go.Vw.callM_plain rfl rfl rfl Go.Vw.tt rfl Go.Vw.leT))) rfl
     | exact Go.Vw.cl2 (Nat.beq_refl _) rfl rfl rfl (Go.Vw.callE_frz rfl rfl Go.Vw.tt rfl rfl (Go.Vw.callE_frz rfl rfl Go.Vw.tt rfl rfl (Go.Vw.callE_of rfl (Go.Vw.callM_plain rfl rfl rfl Go.Vw.tt rfl Go.Vw.leT)))) rfl)
  | (show _ → _ → awpR _ _ _ _ _ _ _
     first
     | exact Go.Vw.clR2 Go.Vw.tt rfl rfl rfl (Go.Vw.callM_plain rfl rfl rfl Go.Vw.tt rfl Go.Vw.leT) rfl rfl
     | exact Go.Vw.clR2 Go.Vw.tt rfl rfl rfl (Go.Vw.callM_lent true rfl rfl rfl Go.Vw.ff Go.Vw.tt rfl Go.Vw.leT rfl Go.Vw.sc) rfl rfl
     | exact Go.Vw.clR2 Go.Vw.tt rfl rfl rfl (Go.Vw.callM_lent false rfl rfl rfl Go.Vw.ff Go.Vw.tt rfl Go.Vw.leT rfl Go.Vw.sc) rfl rfl
     | exact Go.Vw.clR2 (Nat.beq_refl _) rfl rfl rfl (Go.Vw.callM_plain rfl rfl rfl Go.Vw.tt rfl Go.Vw.leT) rfl rfl
     | exact Go.Vw.clR2 (Nat.beq_refl _) rfl rfl rfl (Go.Vw.callM_lent true rfl rfl rfl Go.Vw.ff Go.Vw.tt rfl Go.Vw.leT rfl Go.Vw.sc) rfl rfl
     | exact Go.Vw.clR2 (Nat.beq_refl _) rfl rfl rfl (Go.Vw.callM_lent false rfl rfl rfl Go.Vw.ff Go.Vw.tt rfl Go.Vw.leT rfl Go.Vw.sc) rfl rfl)
  | fail) : P := h hr k
theorem wD {Pg : Program} {f : FuncId} (fr : List Nat) {xs : List V} {bs bs' : List (Nat × Blk)} {y : V} {G P : Prop} (hr : RetB Pg f xs (lookB bs) y (lookB bs')) (k : G) (h : FrI fr → RetB Pg f xs (lookB bs) y (lookB bs') → G → P := by
  first
  | (show _ → _ → _ → awpL _ _ _ _ _
     first
     | exact Go.Vw.clB2 Go.Vw.tt rfl rfl rfl rfl rfl rfl Go.Vw.leVT Go.Vw.allB rfl
     | exact Go.Vw.clB2 (Nat.beq_refl _) rfl rfl rfl rfl rfl rfl Go.Vw.leVT Go.Vw.allB rfl)
  | fail) : P := h trivial hr k
theorem wB {T : TypeId → Option TyD} {fn : Func} {y : V} {bs' : List (Nat × Blk)} {e : Exit} {s : St} {G1 G2 : Prop} (k1 : G1) (k2 : G2) (h : G1 → G2 → retPostB T fn y bs' e s := by
  first
  | exact Go.Vw.finB rfl rfl
  | exact Go.Vw.finBT rfl rfl rfl
  | fail) : retPostB T fn y bs' e s := h k1 k2
end Go.Vw

/-
  The walk's words for panics. Conditions: as each rule says.
-/
namespace Go.Vw
theorem clP2 {Pg : Program} {X : Ctx} {all : Array Oper} {s : St} {o : Oper} {Q : Exit → St → Prop} {rest : List Oper} {c : Call} {caps : List V} {f : FuncId} {xs : List V} {bs : List (Nat × Blk)} {u : Value} (hcf : calleeIs s o.op f = true) (hop : o.op = .call c) (hc : calleeOf s c = some (f, caps)) (hg : gd all s o = some true) (hcov : (keysOk bs (V.refsL xs) && coverR bs bs) = true) (le : LeVT (c.args.toList.map s.opd ++ caps) xs) (hB : AllB s bs) (hP : X.P = Pg) : PanB Pg f xs (lookB bs) u → Q (.panic (thrown u)) (s.subs (bs.map (·.1))) → awpL X all (o :: rest) Q s := fun hr k => clP f (hP ▸ hr) hcf hop hc hg hcov le hB k
theorem wP {Pg : Program} {f : FuncId} {xs : List V} {bs : List (Nat × Blk)} {u : Value} {G P : Prop} (hr : PanB Pg f xs (lookB bs) u) (k : G) (h : PanB Pg f xs (lookB bs) u → G → P := by
  first
  | (show _ → _ → awpL _ _ _ _ _
     first
     | exact Go.Vw.clP2 Go.Vw.tt rfl rfl rfl rfl Go.Vw.leVT Go.Vw.allB rfl
     | exact Go.Vw.clP2 (Nat.beq_refl _) rfl rfl rfl rfl Go.Vw.leVT Go.Vw.allB rfl)
  | fail) : P := h hr k
theorem wX {G P : Prop} (k : G) (h : G → P := by
  first
  | (show _ → awpL _ _ _ _ _
     first
     | exact Go.Vw.stepIfc rfl rfl rfl rfl rfl rfl
     | exact Go.Vw.stepPanic rfl rfl rfl rfl
     | exact Go.Vw.stepDefer rfl rfl rfl rfl rfl rfl)
  | fail) : P := h k
theorem thenP {K : St → Prop} {Q : Exit → St → Prop} {c : List PanicEntry} {s : St} : Q (.panic c) s → andThen K Q (.panic c) s := fun h => h
theorem inP {id : Nat} {Q : Exit → St → Prop} {c : List PanicEntry} {s : St} : Q (.panic c) s → inBlock id Q (.panic c) s := fun h => h
theorem wE {G P : Prop} (k : G) (h : G → P := by
  first
  | exact Go.Vw.thenP
  | exact Go.Vw.inP
  | fail) : P := h k
theorem wO {T : TypeId → Option TyD} {fn : Func} {y : V} {bs' : List (Nat × Blk)} {e : Exit} {s : St} (h : retPostB T fn y bs' e s) : outPost T fn (.ret y bs') e s := h
theorem wQ {T : TypeId → Option TyD} {fn : Func} {u : Value} {s : St} (hd : s.dfs = []) : outPost T fn (.pan u) (.panic (thrown u)) s := ⟨rfl, hd⟩
theorem finBN {T : TypeId → Option TyD} {fn : Func} {bs' : List (Nat × Blk)} {s : St} (hd : s.dfs = []) (h : resAll T s fn.results.toList = some []) (hB : AllB s bs') : retPostB T fn (.tup []) bs' .normal s := ⟨hd, ⟨[], h, .inr ⟨by simp, [], rfl, LeVT.nil⟩⟩, hB⟩
theorem wF {T : TypeId → Option TyD} {fn : Func} {y : V} {bs' : List (Nat × Blk)} {s : St} {G : Prop} (k : G) (h : G → retPostB T fn y bs' .normal s := by
  first
  | exact Go.Vw.finBN rfl rfl
  | fail) : retPostB T fn y bs' .normal s := h k
theorem wR {G P : Prop} (k : G) (h : G → P := by
  first
  | (show _ → awp _ _ _ _
     first
     | exact Go.Vw.cdDT rfl (by with_reducible rfl)
     | exact Go.Vw.cdNF rfl (by with_reducible rfl)
     | exact Go.Vw.cdDT rfl (by with_reducible assumption)
     | exact Go.Vw.cdDF rfl (by with_reducible assumption)
     | exact Go.Vw.cdNT rfl (by with_reducible assumption)
     | exact Go.Vw.cdNF rfl (by with_reducible assumption)
     | exact Go.Vw.cdDF rfl (by decide)
     | exact Go.Vw.cdNT rfl (by decide))
  | (show _ → awpL _ _ _ _ _
     first
     | exact Go.Vw.gdLDT rfl rfl (by with_reducible rfl)
     | exact Go.Vw.gdLNF rfl rfl (by with_reducible rfl)
     | exact Go.Vw.gdLDT rfl rfl (by with_reducible assumption)
     | exact Go.Vw.gdLDF rfl rfl (by with_reducible assumption)
     | exact Go.Vw.gdLNT rfl rfl (by with_reducible assumption)
     | exact Go.Vw.gdLNF rfl rfl (by with_reducible assumption)
     | exact Go.Vw.gdLDF rfl rfl (by decide)
     | exact Go.Vw.gdLNT rfl rfl (by decide))
  | fail) : P := h k
/-! ## An array out of constants -/
end Go.Vw

/-
  The number of a term's factors; how terms are ordered. Conditions: as each says.
-/
set_option maxHeartbeats 8000000
namespace Go.Proofs.Ytjooknpgcjicbaa
open Go.Vw
attribute [local irreducible] awp awpL awpR

abbrev tD (t : Nat) : D := .int .u64 t
theorem bits_Ones (t : Nat) (h : t < 2 ^ 64) : Ret Try.prog 67 [tD t] (· = .int .i64 (popc t)) := by
  have b1 : (t / 2 &&& 6148914691236517205) ≤ 6148914691236517205 := Nat.and_le_right
  have b2 : (t &&& 6148914691236517205) ≤ 6148914691236517205 := Nat.and_le_right
  have b3 : (on1 t / 4 &&& 3689348814741910323) ≤ 3689348814741910323 := Nat.and_le_right
  have b4 : (on1 t &&& 3689348814741910323) ≤ 3689348814741910323 := Nat.and_le_right
  have d1 : on1 t = (t / 2 &&& 6148914691236517205) + (t &&& 6148914691236517205) := rfl
  have d2 : on2 t = (on1 t / 4 &&& 3689348814741910323) + (on1 t &&& 3689348814741910323) := rfl
  have d3 : on3 t = ((on2 t / 16 + on2 t) &&& 1085102592571150095) := rfl
  obtain ⟨b5, b6⟩ := on_last (on3_dle h) (on3_ds h)
  generalize on3 t = A3 at *
  generalize on2 t = A2 at *
  generalize on1 t = A1 at *
  refine ret_of_awp tab Try.func67 rfl rfl (Nat.le_of_ble_eq_true rfl) (fun w0 F0 => ?_)
  repeat' (first | refine stopA 2 tt ?_ | refine wG ?_ | refine wR ?_ | refine wS ?_ ?_ <;> intro _ | refine finG ?_)
  refine stopOut ?_
  refine awp_slots [(0, .d (tD A1)), (2, .d (.int .i64 0))] [] ⟨iv ?_, rfl, rfl⟩ trivial ?_
  · have e1 : ((t : Int) / 2).toNat = t / 2 := by omega
    rw [e1, Int.toNat_natCast, show Int.toNat 6148914691236517205 = 6148914691236517205 from rfl]
    clear d2 d3 b3 b4 b5 b6
    omega
  have b0 : A1 < 18446744073709551616 := by clear d2 d3 b3 b4 b5 b6; omega
  clear b1 b2
  repeat' (first | refine stopA 3 tt ?_ | refine wG ?_ | refine wR ?_ | refine wS ?_ ?_ <;> intro _ | refine finG ?_)
  refine stopOut ?_
  refine awp_slots [(0, .d (tD A2)), (2, .d (.int .i64 0))] [] ⟨iv ?_, rfl, rfl⟩ trivial ?_
  · have e1 : ((A1 : Int) / 2 ^ 2).toNat = A1 / 4 := by omega
    rw [e1, Int.toNat_natCast, show Int.toNat 3689348814741910323 = 3689348814741910323 from rfl]
    clear d1 d3 b5 b6
    omega
  clear b3 b4 d1
  have b7 : A2 ≤ 7378697629483820646 := by rw [d2]; have h1 : (A1 / 4 &&& 3689348814741910323) ≤ 3689348814741910323 := Nat.and_le_right; have h2 : (A1 &&& 3689348814741910323) ≤ 3689348814741910323 := Nat.and_le_right; clear d2 d3 b5 b6; omega
  repeat' (first | refine stopA 4 tt ?_ | refine wG ?_ | refine wR ?_ | refine wS ?_ ?_ <;> intro _ | refine finG ?_)
  refine stopOut ?_
  refine awp_slots [(0, .d (tD A3)), (2, .d (.int .i64 0))] [] ⟨iv ?_, rfl, rfl⟩ trivial ?_
  · have e1 : ((A2 : Int) / 2 ^ 4 + A2).toNat = A2 / 16 + A2 := by clear d2 d3 b6; omega
    rw [e1, show Int.toNat 1085102592571150095 = 1085102592571150095 from rfl, ← d3]
  clear d2 d3 b7
  have b8 : A3 < 1152921504606846976 := b5
  clear b5
  repeat' (first | refine stopA 7 tt ?_ | refine wG ?_ | refine wR ?_ | refine wS ?_ ?_ <;> intro _ | refine finG ?_)
  refine stopOut ?_
  refine awp_slots [(0, .d (tD ((A3 + A3 / 256 + (A3 + A3 / 256) / 65536) + (A3 + A3 / 256 + (A3 + A3 / 256) / 65536) / 4294967296))), (2, .d (.int .i64 0))] [] ⟨iv ?_, rfl, rfl⟩ trivial ?_
  · clear b6
    omega
  have b9 : (A3 + A3 / 256 + (A3 + A3 / 256) / 65536) + (A3 + A3 / 256 + (A3 + A3 / 256) / 65536) / 4294967296 < 9223372036854775808 := by clear b6; omega
  generalize (A3 + A3 / 256 + (A3 + A3 / 256) / 65536) + (A3 + A3 / 256 + (A3 + A3 / 256) / 65536) / 4294967296 = z at *
  repeat' (first | refine wG ?_ | refine wR ?_ | refine wS ?_ ?_ <;> intro _ | refine finG ?_)
  rw [Int.toNat_natCast, show Int.toNat 127 = 2 ^ 7 - 1 from rfl, Nat.and_two_pow_sub_one_eq_mod]
  exact congrArg (D.int .i64) (by omega)
theorem terms_size (t : Nat) (h : t < 2 ^ 64) : Ret Try.prog 32 [tD t] (· = .int .i64 (popc t)) := by
  have o := bits_Ones t h
  generalize popc t = n at *
  refine ret_of_awp tab Try.func32 rfl rfl (Nat.le_of_ble_eq_true rfl) (fun w0 F0 => ?_)
  repeat' (first | refine wG ?_ | refine wC o ?_ | refine wR ?_ | refine wS ?_ ?_ <;> intro _ | refine finG ?_)
  rfl
theorem checked_one (t : Nat) (h : t < 2 ^ 64) : Ret Try.prog 103 [tD t] (· = .bool (decide (6 < popc t))) := by
  have o := bits_Ones t h
  generalize popc t = n at *
  refine ret_of_awp tab Try.func103 rfl rfl (Nat.le_of_ble_eq_true rfl) (fun w0 F0 => ?_)
  repeat' (first | refine wG ?_ | refine wC o ?_ | refine wR ?_ | refine wS ?_ ?_ <;> intro _ | refine finG ?_)
  exact congrArg D.bool (decide_eq_decide.2 (by omega))
theorem cmp_nan (x : Int) : Ret Try.prog 66 [.int .i64 x] (· = .bool false) := by
  refine ret_of_awp tab Try.func66 rfl rfl (Nat.le_of_ble_eq_true rfl) (fun w0 F0 => ?_)
  repeat' (first | refine wG ?_ | refine wR ?_ | refine wS ?_ ?_ <;> intro _ | refine finG ?_)
  simp
def cmpN (x y : Nat) : Int := if x < y then -1 else if y < x then 1 else 0
theorem cmp_cmp (x y : Nat) : Ret Try.prog 31 [.int .i64 x, .int .i64 y] (· = .int .i64 (cmpN x y)) := by
  have c1 := cmp_nan x
  have c2 := cmp_nan y
  unfold cmpN
  refine ret_of_awp tab Try.func31 rfl rfl (Nat.le_of_ble_eq_true rfl) (fun w0 F0 => ?_)
  repeat' (first | refine wG ?_ | refine wC c1 ?_ | refine wC c2 ?_ | refine wR ?_ | refine wS ?_ ?_ <;> intro _ | refine finG ?_)
  all_goals (refine congrArg (D.int .i64) ?_; ((repeat' split) <;> omega))
theorem Expand_cmp (s t : Nat) (hs : s < 2 ^ 64) (ht : t < 2 ^ 64) : Ret Try.prog 30 [tD s, tD t] (· = .int .i64 (cmpN (popc s) (popc t))) := by
  have s1 := terms_size s hs
  have s2 := terms_size t ht
  have c := cmp_cmp (popc s) (popc t)
  generalize popc s = a at *
  generalize popc t = b at *
  refine ret_of_awp tab Try.func30 rfl rfl (Nat.le_of_ble_eq_true rfl) (fun w0 F0 => ?_)
  repeat' (first | refine wG ?_ | refine wC s1 ?_ | refine wC s2 ?_ | refine wC c ?_ | refine wR ?_ | refine wS ?_ ?_ <;> intro _ | refine finG ?_)
  rfl
end Go.Proofs.Ytjooknpgcjicbaa

/-
  States whose keys bear other names. Conditions: the table of types is the program's.
-/
namespace Go.Vw
open Go.RowKit
def St.ren (σ τ : Nat → Nat) (s : St) : St := { tmps := fun t => (s.tmps t).ren σ, blk := renO σ τ s.blk, dfs := [] }
theorem SR.ren {X : Ctx} {io : Nat → Option Nat} {F : Nat → Prop} {s : St} {a : Act} {w : World} (hs : SR X io F s a w) (hd : s.dfs = []) {σ τ : Nat → Nat} (h1 : ∀ k, σ (τ k) = k) (h2 : ∀ k, τ (σ k) = k) (hK : ∀ k ∈ X.K, τ k = k) : SR X (fun k => io (τ k)) F (s.ren σ τ) a w := by
  have hne : ∀ k, (s.ren σ τ).blk k ≠ none → s.blk (τ k) ≠ none := fun k h => by
    intro e
    exact h (by simp only [St.ren, renO, e, Option.map_none])
  have hln : ∀ k, (s.ren σ τ).ln k = s.ln (τ k) := fun k => by
    cases h : s.blk (τ k) with
    | none =>
      have : (s.ren σ τ).blk k = none := by simp only [St.ren, renO, h, Option.map_none]
      unfold St.ln
      rw [this, h]
    | some b =>
      have : (s.ren σ τ).blk k = some (b.ren σ) := by simp only [St.ren, renO, h, Option.map_some]
      rw [ln_of this, ln_of h, Blk.ren_ln]
  have hkeys : (⟨fun k => ((s.ren σ τ).keys fun k => io (τ k)).io (σ k), fun k => ((s.ren σ τ).keys fun k => io (τ k)).ln (σ k)⟩ : Keys) = s.keys io := by
    show (⟨fun k => io (τ (σ k)), fun k => (s.ren σ τ).ln (σ k)⟩ : Keys) = ⟨io, s.ln⟩
    congr 1
    · funext k; rw [h2]
    · funext k; rw [hln, h2]
  refine ⟨hs.kept, fun t => ?_, hs.nt, ?_, fun k b hk => ?_, fun k k' b e1 e2 e3 e4 => ?_, hs.ff, hs.f0, fun k hk => ?_⟩
  · refine (VR.ren (io := (s.ren σ τ).keys fun k => io (τ k)) (s.tmps t) _).1 ?_
    rw [hkeys]
    exact hs.tm t
  · have := hs.df
    rw [hd] at this
    exact this
  · simp only [St.ren, renO, Option.map_eq_some_iff] at hk
    obtain ⟨b0, e0, rfl⟩ := hk
    have := hs.bl (τ k) b0 e0
    rw [← hkeys] at this
    have := BR.ren (io := (s.ren σ τ).keys fun k => io (τ k)).1 this
    rwa [h1] at this
  · have := hs.inj (τ k) (τ k') b (hne k e1) (hne k' e2) e3 e4
    have := congrArg σ this
    rwa [h1, h1] at this
  · show io (τ k) = X.io0 k
    rw [hK k hk]
    exact hs.st k hk
def renT (σ : Nat → Nat) : List (Nat × V) → List (Nat × V)
  | [] => []
  | (k, v) :: r => (k, v.ren σ) :: renT σ r
theorem lookT_ren (σ : Nat → Nat) : ∀ (l : List (Nat × V)) (t : Nat), (lookT l t).ren σ = lookT (renT σ l) t
  | [], t => rfl
  | (k, v) :: r, t => by
    simp only [lookT, renT]
    cases Nat.beq t k with
    | true => rfl
    | false => simpa using lookT_ren σ r t
theorem perm_notin : ∀ (l : List (Nat × Nat)) (k : Nat), (l.all fun p => !(Nat.beq k p.1) && !(Nat.beq k p.2)) = true → permI l k = k
  | [], k, _ => rfl
  | (a, b) :: r, k, h => by
    simp only [List.all_cons, Bool.and_eq_true, Bool.not_eq_true'] at h
    simp only [permI]
    rw [perm_notin r k (by simpa using h.2)]
    unfold swp
    rw [h.1.1, h.1.2]
    rfl
theorem awp_rekey {X : Ctx} {c : Code} {Q : Exit → St → Prop} {ts : List (Nat × V)} {bs : List (Nat × Blk)} (l : List (Nat × Nat)) {ts2 : List (Nat × V)} {bs2 : List (Nat × Blk)} (h : awp X c Q (St.of ts2 bs2)) (hK : (X.K.all fun k => l.all fun p => !(Nat.beq k p.1) && !(Nat.beq k p.2)) = true := by rfl) (e1 : renT (perm l) ts = ts2 := by rfl) (e2 : renB (perm l) bs = bs2 := by rfl) : awp X c Q (St.of ts bs) := fun io F a w hs => by
  subst e1 e2
  have := hs.ren rfl (perm_permI l) (permI_perm l) (fun k hk => perm_notin l k (by
    simp only [List.all_eq_true] at hK
    have := hK k hk
    simpa only [List.all_eq_true] using this))
  have e : (St.of ts bs).ren (perm l) (permI l) = St.of (renT (perm l) ts) (renB (perm l) bs) := by
    unfold St.ren St.of
    congr 1
    · funext t; exact lookT_ren _ _ _
    · exact lookB_ren (perm_permI l) (permI_perm l) bs
  rw [e] at this
  exact h _ F a w this
theorem awp_rename {X : Ctx} {c : Code} {Q : Exit → St → Prop} {s : St} (ts : List (Nat × V)) (bs : List (Nat × Blk)) (l : List (Nat × Nat)) (ht : AllT s ts) (hb : AllB s bs) {ts2 : List (Nat × V)} {bs2 : List (Nat × Blk)} (h : awp X c Q (St.of ts2 bs2)) (hK : (X.K.all fun k => l.all fun p => !(Nat.beq k p.1) && !(Nat.beq k p.2)) = true := by rfl) (e1 : renT (perm l) ts = ts2 := by rfl) (e2 : renB (perm l) bs = bs2 := by rfl) (hc : (coverT bs ts && coverB bs bs) = true := by rfl) : awp X c Q s :=
  awp_slots ts bs ht hb (awp_rekey l h hK e1 e2) hc
end Go.Vw

/-
  Drawn regions by the sets of operations that have been carried out; lists that are appended to beside other work. Conditions: the table of types is the program's.
-/
namespace Go.Vw
open Go.RowKit
def insL (L : Nat → Bool) (i : Nat) : Nat → Bool := fun j => bif Nat.beq j i then true else L j
theorem awp_region_gen {X : Ctx} (hm : X.P.follows .mixedOrders = true) {id : Nat} {ops : List Oper} (n : Nat) (tf : TailFacts ops.toArray n) (A : (Nat → Bool) → St) {Q : Exit → St → Prop} {s s1 : St} (h0 : A (fun _ => false) = s) (h1 : ∀ L, (∀ j, j < n → L j = true) → (∀ j, L j = true → j < n) → A L = s1)
    (step : ∀ (L : Nat → Bool) (i : Nat) (o : Oper), i < n → ops.toArray[i]? = some o → L i = false → (∀ j, L j = true → j < n) → (∀ j, j < i → ((masks ops.toArray.toList []).getD i 0).testBit j = true → L j = true) → (∀ j, L j = true → ∀ k, ((masks ops.toArray.toList []).getD j 0).testBit k = true → L k = true) → E1 X ops.toArray (A L) o (A (insL L i)))
    (htail : awpL X ops.toArray (ops.drop n) Q s1) : awp X (.region id ops.toArray true) Q s := by
  intro io F0 a0 w0 hs
  refine wp_region_any hm ?_
  have hle := tf.le
  have hsz : ops.toArray.size = ops.length := rfl
  have getn : ∀ j, j < n → ∃ o, ops.toArray[j]? = some o := fun j hj => ⟨_, Array.getElem?_eq_getElem (by omega)⟩
  have key : ∀ (u fuel : Nat) (listed : Array Bool) (io : Nat → Option Nat) (F : Nat → Prop) (a : Act) (w : World), (List.range n).countP (fun j => !listed.getD j false) ≤ u → u + (ops.toArray.size - n) ≤ fuel → listed.size = ops.toArray.size →
      (∀ j, listed.getD j false = true → j < n) → (∀ i o, ops.toArray[i]? = some o → listed.getD i false = true → ∀ e ∈ o.after, Region.binds .any e = true → listed.getD e.on false = true) →
      SR X io F (A (fun j => listed.getD j false)) a w → wpAny X.P .any ops.toArray (lift X Q) fuel listed a w := by
    intro u
    induction u with
    | zero =>
      intro fuel listed io F a w hu hfu hsize htl hcl hsr
      have hall : ∀ j, j < n → listed.getD j false = true := fun j hj => by
        have := List.countP_eq_zero.1 (Nat.le_zero.1 hu) j (by simpa using hj)
        simpa using this
      refine wpAny_tail tf (ops.toArray.size - n) n fuel listed a w (Nat.le_refl _) (by omega) (by omega) hsize (fun j => ⟨htl j, hall j⟩) ?_
      rw [h1 _ hall htl] at hsr
      exact htail _ _ _ _ hsr
    | succ u ih =>
      intro fuel listed io F a w hu hfu hsize htl hcl hsr
      by_cases hall : ∀ j, j < n → listed.getD j false = true
      · have h0 : (List.range n).countP (fun j => !listed.getD j false) = 0 := List.countP_eq_zero.2 fun j hj => by simp only [List.mem_range] at hj; simp [hall j hj]
        exact ih fuel listed io F a w (by omega) (by omega) hsize htl hcl hsr
      · have hex : ∃ j, j < n ∧ listed.getD j false ≠ true ∧ ∀ k, k < j → listed.getD k false = true := by
          have : ∃ j, j < n ∧ listed.getD j false ≠ true := by
            rcases Classical.em (∃ j, j < n ∧ listed.getD j false ≠ true) with h | h
            · exact h
            · exact absurd (fun j hj => Classical.byContradiction fun hne => h ⟨j, hj, hne⟩) hall
          obtain ⟨j, hj⟩ := this
          induction j using Nat.strongRecOn with
          | _ j ihj =>
            by_cases hk : ∃ k, k < j ∧ listed.getD k false ≠ true
            · obtain ⟨k, hk1, hk2⟩ := hk
              exact ihj k hk1 ⟨by omega, hk2⟩
            · exact ⟨j, hj.1, hj.2, fun k hk1 => Classical.byContradiction fun h => hk ⟨k, hk1, h⟩⟩
        obtain ⟨j0, hj0, hnl, hless⟩ := hex
        cases fuel with
        | zero => omega
        | succ fuel =>
          obtain ⟨o0, ho0⟩ := getn j0 hj0
          have hready0 : j0 ∈ Region.ready .any ops.toArray listed := mem_ready.2 ⟨by
              simp [show j0 < listed.size by omega] at hnl ⊢
              exact hnl, o0, ho0, fun e he hb => hless _ (tf.back j0 o0 ho0 e he hb)⟩
          refine ⟨fun hnil => (by rw [hnil] at hready0; cases hready0), fun i hi => ?_⟩
          obtain ⟨h0, o, ho, hpre⟩ := mem_ready.1 hi
          have hilt := (Array.getElem?_eq_some_iff.1 ho).1
          have hspec : ∀ j, ((masks ops.toArray.toList []).getD i 0).testBit j = true → listed.getD j false = true ∨ j = i := fun j hbit =>
            masks_spec (fun j => listed.getD j false = true ∨ j = i) ops.toArray.toList [] 0 rfl (fun i h => by simp at h) (fun k' o' h1 h2 e he hb => by
              rcases h2 with h2 | h2
              · left; exact hcl k' o' (by simpa using h1) (by simpa using h2) e he hb
              · left
                simp only [Nat.zero_add] at h2
                subst h2
                have : o' = o := by
                  have h1' : ops.toArray[k']? = some o' := by simpa using h1
                  rw [ho] at h1'; cases h1'; rfl
                subst this
                exact hpre e he hb) (fun k' o' h1 e he hb => by simpa using tf.back k' o' (by simpa using h1) e he hb) i (.inr rfl) j hbit
          have hin : i < n := by
            rcases Nat.lt_or_ge i n with h' | h'
            · exact h'
            · rcases hspec j0 (tf.tail i h' hilt j0 (by omega)) with h | h
              · exact absurd h hnl
              · omega
          have hclm : ∀ j, listed.getD j false = true → ∀ k, ((masks ops.toArray.toList []).getD j 0).testBit k = true → listed.getD k false = true := fun j hj k hk =>
            masks_spec (fun j => listed.getD j false = true) ops.toArray.toList [] 0 rfl (fun i h => by simp at h) (fun k' o' h1 h2 e he hb => hcl k' o' (by simpa using h1) (by simpa using h2) e he hb) (fun k' o' h1 e he hb => by simpa using tf.back k' o' (by simpa using h1) e he hb) j hj k hk
          have hunl : listed.getD i false = false := by
            simp [show i < listed.size by omega] at h0 ⊢
            exact h0
          have hs2 := step (fun j => listed.getD j false) i o hin ho hunl htl (fun j hji hbit => by
            rcases hspec j hbit with h | h
            · exact h
            · omega) hclm io F a w hsr (wpAny X.P .any ops.toArray (lift X Q) fuel (listed.setIfInBounds i true)) (lift X Q) fun io' F' a' w' hs' => by
            have hins : A (insL (fun j => listed.getD j false) i) = A (fun j => (listed.setIfInBounds i true).getD j false) := by
              congr 1
              funext j
              unfold insL
              by_cases e : j = i
              · subst e; simp [getD_set_self (show j < listed.size by omega)]
              · rw [getD_set_ne false (Ne.symm e)]; simp [e]
            rw [hins] at hs'
            refine ih fuel _ io' F' a' w' ?_ (by omega) (by simpa using hsize) (fun j hj => ?_) (fun k ok hk hlk e he hb => ?_) hs'
            · have := countP_lt (p := fun j => !listed.getD j false) (q := fun j => !(listed.setIfInBounds i true).getD j false) (i := i) (by simp [hunl]) (by simp [getD_set_self (show i < listed.size by omega)]) (fun j hj => by
                by_cases e : j = i
                · subst e; simp [hunl]
                · rw [getD_set_ne false (Ne.symm e)] at hj; exact hj) (l := List.range n) (by simpa using hin)
              omega
            · by_cases e : j = i
              · rw [e]; exact hin
              · rw [getD_set_ne false (Ne.symm e)] at hj; exact htl j hj
            · by_cases e' : k = i
              · subst e'
                rw [ho] at hk; cases hk
                exact getD_set_true (hpre e he hb)
              · rw [getD_set_ne false (Ne.symm e')] at hlk
                exact getD_set_true (hcl k ok hk hlk e he hb)
          unfold wpOp
          simp only [ho]
          exact hs2
  have hdr : SR X io F0 (A (fun j => (Array.replicate ops.toArray.size false).getD j false)) a0 w0.drew := by
    have e : (fun j => (Array.replicate ops.toArray.size false).getD j false) = fun _ => false := by
      funext j
      simp only [Array.getD_eq_getD_getElem?, Array.getElem?_replicate]
      split <;> rfl
    rw [e, h0]
    exact hs.drew
  refine key n ops.toArray.size _ io F0 a0 w0.drew ?_ (by omega) (by simp) (fun j hj => ?_) (fun i o ho hl => ?_) hdr
  · exact Nat.le_trans List.countP_le_length (by simp)
  · simp only [Array.getD_eq_getD_getElem?, Array.getElem?_replicate] at hj
    split at hj <;> simp at hj
  · simp only [Array.getD_eq_getD_getElem?, Array.getElem?_replicate] at hl
    split at hl <;> simp at hl

/-! ## Appends -/

def isApp (o : Oper) : Bool := match o.op with | .call c => (match c.callee with | .builtin .append => true | _ => false) | _ => false
def conflA (all : Array Oper) (a b : Oper) : Bool := looksB all b a.dst || looksB all a b.dst || (match a.dst, b.dst with | some x, some y => x == y | _, _ => false) || (isApp a && isApp b)
structure OrdA (ops : Array Oper) (n : Nat) : Prop where
  tf : TailFacts ops n
  ord : ∀ i j a b, i < j → j < n → ops[i]? = some a → ops[j]? = some b → conflA ops a b = true → ((masks ops.toList []).getD j 0).testBit i = true
  reg : ∀ i j a b, i < n → j < n → ops[i]? = some a → ops[j]? = some b → isApp a = true → isApp b = false → looksB ops b a.dst = false
inductive UpdA : Type 1 where
  | reg (d : Option Tmp) (x : V)
  | app (d : Tmp) (x : V) (k : Nat) (b : Blk)
def UpdA.dst : UpdA → Option Tmp
  | .reg d _ => d
  | .app d _ _ _ => some d
def UpdA.isApp : UpdA → Bool
  | .reg _ _ => false
  | .app _ _ _ _ => true
def apA (s : St) : UpdA → St
  | .reg d x => s.put d x
  | .app d x k b => (s.new k b).put (some d) x
def accA (s : St) (us : Nat → UpdA) (L : Nat → Bool) : Nat → St
  | 0 => s
  | n + 1 => bif L n then apA (accA s us L n) (us n) else accA s us L n
theorem new_tmps {s : St} {k : Nat} {b : Blk} (t : Nat) : (s.new k b).tmps t = (s.tmps t).sub k none := rfl
theorem put_tmps {s : St} {d : Tmp} {x : V} (t : Nat) : (s.put (some d) x).tmps t = if t = d then x else s.tmps t := by
  simp only [St.put]
  by_cases h : t = d
  · subst h; simp
  · rw [if_neg h, beq_of_ne h]; rfl
theorem new_put {s : St} {d : Option Tmp} {x : V} {k : Nat} {b : Blk} (h : x.noKey k = true) : (s.put d x).new k b = (s.new k b).put d x := by
  cases d with
  | none => rfl
  | some d =>
    refine St.eta (funext fun t => ?_) rfl rfl
    rw [new_tmps, put_tmps, put_tmps, new_tmps]
    split
    · exact V.sub_noKey _ h
    · rfl
theorem put_comm {s : St} {d d' : Option Tmp} {x x' : V} (h : ∀ t, d = some t → d' ≠ some t) : (s.put d x).put d' x' = (s.put d' x').put d x := by
  cases d with
  | none => rfl
  | some d => cases d' with
    | none => rfl
    | some d' =>
      refine St.eta (funext fun t => ?_) rfl rfl
      simp only [put_tmps]
      by_cases h1 : t = d
      · subst h1
        rw [if_pos rfl, if_pos rfl, if_neg (fun e => h t rfl (by rw [e]))]
      · by_cases h2 : t = d'
        · subst h2; rw [if_pos rfl, if_neg h1, if_pos rfl]
        · rw [if_neg h2, if_neg h1, if_neg h1, if_neg h2]
theorem accA_blk {s : St} {us : Nat → UpdA} {L L' : Nat → Bool} : ∀ n, (∀ i, i < n → (us i).isApp = true → L i = L' i) → (accA s us L n).blk = (accA s us L' n).blk
  | 0, _ => rfl
  | n + 1, h => by
    have ih := accA_blk (s := s) (L := L) (L' := L') n fun i hi => h i (by omega)
    simp only [accA]
    cases hu : us n with
    | reg d x =>
      have e : ∀ (b : Bool) (s0 : St), (bif b then apA s0 (.reg d x) else s0).blk = s0.blk := fun b s0 => by cases b <;> simp [apA, put_blk]
      rw [e, e, ih]
    | app d x k b =>
      rw [h n (by omega) (by rw [hu]; rfl)]
      cases L' n with
      | true =>
        simp only [cond_true, apA, put_blk]
        show (fun j => _) = (fun j => _)
        funext j
        simp only [St.new, St.withBlk, St.sub, ih]
      | false => exact ih
theorem accA_app {s : St} {us : Nat → UpdA} {L L' : Nat → Bool} {t : Nat} : ∀ n, (∀ i, i < n → (us i).dst = some t → L i = L' i) → (∀ i, i < n → (us i).isApp = true → L i = L' i) → (accA s us L n).tmps t = (accA s us L' n).tmps t
  | 0, _, _ => rfl
  | n + 1, h1, h2 => by
    have ih := accA_app (s := s) (L := L) (L' := L') (t := t) n (fun i hi => h1 i (by omega)) (fun i hi => h2 i (by omega))
    simp only [accA]
    cases hu : us n with
    | reg d x =>
      by_cases hd : d = some t
      · subst hd
        rw [h1 n (by omega) (by rw [hu]; rfl)]
        cases L' n with
        | true => simp only [cond_true, apA, put_tmps, if_true]
        | false => exact ih
      · have e : ∀ (b : Bool) (s0 : St), (bif b then apA s0 (.reg d x) else s0).tmps t = s0.tmps t := fun b s0 => by cases b <;> simp only [cond_true, cond_false, apA]; exact put_tmps_ne hd
        rw [e, e]; exact ih
    | app d x k b =>
      rw [h2 n (by omega) (by rw [hu]; rfl)]
      cases L' n with
      | true => simp only [cond_true, apA, put_tmps, new_tmps, ih]
      | false => exact ih
theorem accA_insert {s : St} {us : Nat → UpdA} {L : Nat → Bool} {i : Nat} (hL : L i = false) : ∀ n, i < n → (∀ j, i < j → j < n → L j = true → ∀ s0, apA (apA s0 (us i)) (us j) = apA (apA s0 (us j)) (us i)) → accA s us (insL L i) n = apA (accA s us L n) (us i)
  | 0, h, _ => by omega
  | n + 1, h, hc => by
    have same : ∀ j, j ≠ i → insL L i j = L j := fun j hj => by unfold insL; rw [beq_of_ne hj]; rfl
    have hi : insL L i i = true := by unfold insL; simp
    simp only [accA]
    by_cases e : i = n
    · subst e
      have h2 : accA s us (insL L i) i = accA s us L i := by
        have : ∀ m, m ≤ i → accA s us (insL L i) m = accA s us L m := by
          intro m
          induction m with
          | zero => intro _; rfl
          | succ m ih => intro hm; simp only [accA]; rw [ih (by omega), same m (by omega)]
        exact this i (Nat.le_refl _)
      rw [hi, hL, h2]; rfl
    · rw [accA_insert hL n (by omega) (fun j h1 h2 => hc j h1 (by omega)), same n (Ne.symm e)]
      cases hn : L n with
      | true => simp only [cond_true]; exact hc n (by omega) (by omega) hn _
      | false => rfl
theorem accA_congr {s : St} {us : Nat → UpdA} {L L' : Nat → Bool} : ∀ m, (∀ j, j < m → L j = L' j) → accA s us L m = accA s us L' m
  | 0, _ => rfl
  | m + 1, h => by simp only [accA]; rw [accA_congr m (fun j hj => h j (by omega)), h m (by omega)]

inductive PRunA (X : Ctx) (all : Array Oper) (ks : List Nat) : List Oper → St → St → Prop
  | nil {s : St} : PRunA X all ks [] s s
  | reg {o : Oper} {rest : List Oper} {s s' : St} {x : V} (hd : dstOk X.N o.dst = true) (h : ∀ s' : St, (∀ t ∈ o.looksAt all, s'.tmps t = s.tmps t) → M1 X all s' o x) (hna : isApp o = false) (hx : (ks.all fun k => x.noKey k) = true) (k : PRunA X all ks rest (s.put o.dst x) s') : PRunA X all ks (o :: rest) s s'
  | app {o : Oper} {rest : List Oper} {s s' : St} {d : Tmp} {x : V} {k : Nat} {b : Blk} (ha : isApp o = true) (hd : o.dst = some d) (hk : ks.contains k = true) (h : ∀ s' : St, s'.blk = s.blk → (∀ t ∈ o.looksAt all, s'.tmps t = s.tmps t) → E1 X all s' o ((s'.new k b).put (some d) x)) (kk : PRunA X all ks rest ((s.new k b).put (some d) x) s') : PRunA X all ks (o :: rest) s s'
inductive UpdOkA (X : Ctx) (all : Array Oper) (ks : List Nat) (s : St) (o : Oper) : UpdA → Prop
  | reg {x : V} (hd : dstOk X.N o.dst = true) (h : ∀ s' : St, (∀ t ∈ o.looksAt all, s'.tmps t = s.tmps t) → M1 X all s' o x) (hna : isApp o = false) (hx : (ks.all fun k => x.noKey k) = true) : UpdOkA X all ks s o (.reg o.dst x)
  | app {d : Tmp} {x : V} {k : Nat} {b : Blk} (ha : isApp o = true) (hd : o.dst = some d) (hk : ks.contains k = true) (h : ∀ s' : St, s'.blk = s.blk → (∀ t ∈ o.looksAt all, s'.tmps t = s.tmps t) → E1 X all s' o ((s'.new k b).put (some d) x)) : UpdOkA X all ks s o (.app d x k b)
def isSl (o : Oper) : Bool := match o.op with | .slice .. => true | _ => false
def SrcB (X : Ctx) (β : Nat → Option Blk) (y : V) (sz : Nat) {α : Type} (e : α → List D) (z : α) (l : List α) : Prop := ∀ s' : St, s'.blk = β → SrcOk X s' y sz e l
section
variable {X : Ctx} {all : Array Oper} {Q : Exit → St → Prop} {s : St} {o : Oper} {pre rest : List Oper} {ks : List Nat}
theorem optI_agree {s' : St} {y : Option Operand} (h : ∀ z, y = some z → s'.opd z = s.opd z) : optI s' y = optI s y := by
  cases y with
  | none => rfl
  | some z => simp only [optI, h z rfl]
theorem evalQ_slice {T : TypeId → Option TyD} {m : Bool} {s' : St} (hm : isSl o = true) (h : ∀ t ∈ o.looksAt all, s'.tmps t = s.tmps t) : evalQ T m s' o.op = evalQ T m s o.op := by
  have hop := fun y hy => opd_agree (s := s) (s' := s') (o := o) (all := all) (y := y) hy h
  unfold isSl at hm
  split at hm
  · rename_i t x lo hi mx e
    rw [e] at hop ⊢
    have h1 := hop x (by simp [Op.operands])
    have h2 : optI s' lo = optI s lo := optI_agree fun z hz => hop z (by subst hz; simp [Op.operands])
    have h3 : optI s' hi = optI s hi := optI_agree fun z hz => hop z (by subst hz; simp [Op.operands])
    have h4 : optI s' mx = optI s mx := optI_agree fun z hz => hop z (by subst hz; simp [Op.operands])
    simp only [evalQ, h1, h2, h3, h4]
  · cases hm
theorem callee_agree {s' : St} {c : Call} (hop : o.op = .call c) (h : ∀ t ∈ o.looksAt all, s'.tmps t = s.tmps t) : calleeOf s' c = calleeOf s c ∧ c.args.toList.map s'.opd = c.args.toList.map s.opd := by
  have ho := fun y hy => opd_agree (s := s) (s' := s') (o := o) (all := all) (y := y) hy h
  rw [hop] at ho
  constructor
  · unfold calleeOf
    cases hc : c.callee with
    | value y =>
      have := ho y (by simp only [Op.operands, Call.operands, hc]; simp)
      simp only [this]
    | _ => rfl
  · exact List.map_congr_left fun y hy => ho y (by simp only [Op.operands, Call.operands]; simp; right; simpa using hy)
theorem srcB_d {β : Nat → Option Blk} {sz : Nat} {α : Type} {e : α → List D} {z : α} {l : List α} : SrcB X β (.d (.sl sz e z l)) sz e z l := fun s' _ => src_data (LeD.refl _)
theorem srcB_own {β : Nat → Option Blk} {k o n : Nat} {ty ty' : TypeId} {sz : Nat} {α : Type} {e : α → List D} {z : α} {l : List α} (hk : β k = some (.data ty' sz e z l)) : SrcB X β (.own k o n ty sz) sz e z (cut o n l) := fun s' hs => src_own (by rw [hs]; exact hk)
theorem srcB_lit {β : Nat → Option Blk} {sz n : Nat} {α : Type} {e : α → List D} {z : α} {rows : List (List D)} {a : α} {l : List α} (hn : rows.length = n) (h : LeR sz rows e (a :: l)) : SrcB X β (.d (.sl sz (nth [] rows) 0 (iota n 0))) sz e z (a :: l) := fun s' _ => src_lit hn h
theorem srcB {β : Nat → Option Blk} {y : V} {sz : Nat} {α : Type} {e : α → List D} {z : α} {l : List α} (h : SrcB X β y sz e z l := by
  first
  | exact Go.Vw.srcB_lit rfl (Go.Vw.LeR.cons rfl Go.Vw.leL Go.Vw.LeR.nil)
  | exact Go.Vw.srcB_own rfl
  | exact Go.Vw.srcB_d
  | fail) : SrcB X β y sz e z l := h
end

theorem drt_toV {io : Keys} {F : Nat → Prop} {w : World} {g : Nat → Option Value} : ∀ {ds : List D} {off : Nat}, DRT F w g off ds → VRT io F w g off (ds.map V.d)
  | [], _, _ => by simp only [List.map_nil, VRT]
  | d :: ds, off, h => by
    simp only [DRT] at h
    simp only [List.map_cons, VRT, VR]
    exact ⟨h.1, drt_toV h.2⟩
theorem RetB.toRet {P : Program} {f : FuncId} {ds : List D} {bs' : List (Nat × Blk)} {y : V} (h : RetB P f (ds.map V.d) (lookB []) y (lookB bs')) (m : Bool) {C : Prop} {d : D} (ha : V.asD m (St.of [] bs') y = some (C, d)) (hC : C) : Ret P f ds (· = d) := by
  refine ⟨h.enters, fun F w vs hF hl hv => ?_⟩
  have hno : ∀ io b, ¬ OwnA (lookB []) io b := fun io b ⟨k, hk, _⟩ => hk rfl
  refine (h.run (fun _ => none) F w vs hF (by simpa using hl) (drt_toV hv) ⟨fun k b hk => (by cases hk), fun k k' b e1 => absurd rfl e1⟩).mono fun e w' ⟨v, io', F', he, g1, g2, g3, g4, g5, g6⟩ => ?_
  have hkeys : (St.of [] bs').keys io' = ⟨io', lnO (lookB bs')⟩ := by
    show (⟨io', (St.of [] bs').ln⟩ : Keys) = _
    rw [lnO_eq]; rfl
  have hb : ∀ k b, (St.of [] bs').blk k = some b → BR (OwnA (lookB []) fun _ => none) w.heap.size ((St.of [] bs').keys io') F' w' k b := fun k b hk => by
    rw [hkeys]; exact g6.br k b hk
  refine ⟨v, d, Lent (St.of [] bs') io' F', he, rfl, ⟨g1.os, g1.tape, g1.output, g1.size, fun b hb => g1.block b hb (hno _ b)⟩, fun b hb => .inl (g2 b hb), fun b hb' => ?_, asD_sound hb y v ha hC (by rw [hkeys]; exact g5)⟩
  rcases hb' with h1 | ⟨k, hk, e1⟩
  · obtain ⟨h2, h3⟩ := g3 b h1
    rcases h3 with h3 | h3 | h3
    · exact .inl h3
    · exact .inr ⟨h3, h2⟩
    · exact absurd h3 (hno _ b)
  · obtain ⟨b0, hb0⟩ := Option.ne_none_iff_exists'.1 hk
    obtain ⟨_, h2, h3⟩ := (hb k b0 hb0).notF e1
    rcases h2 with h2 | h2
    · exact absurd h2 (hno _ b)
    · exact .inr ⟨h2, h3⟩
end Go.Vw

/-
  copy into a slice of the call's own. Conditions: the table of types is the program's.
-/
namespace Go.Vw
open Go.RowKit
def copyL {α : Type} (l : List α) (o n : Nat) (l2 : List α) : List α := l.take o ++ (l2.take n ++ l.drop (o + min n l2.length))
theorem copyL_len {α : Type} {l l2 : List α} {o n : Nat} (h : o + n ≤ l.length) : (copyL l o n l2).length = l.length := by
  unfold copyL; simp; omega
theorem copyL_get {α : Type} {l l2 : List α} {o n : Nat} (h : o + n ≤ l.length) (j : Nat) : (copyL l o n l2)[j]? = if o ≤ j ∧ j < o + min n l2.length then l2[j - o]? else l[j]? := by
  unfold copyL
  have hA : (l.take o).length = o := by simp; omega
  have hB : (l2.take n).length = min n l2.length := by simp
  by_cases h1 : j < o
  · rw [List.getElem?_append_left (by omega), List.getElem?_take, if_pos h1, if_neg (by omega)]
  · rw [List.getElem?_append_right (by omega), hA]
    by_cases h2 : j - o < min n l2.length
    · rw [List.getElem?_append_left (by omega), List.getElem?_take, if_pos (by omega), if_pos (by omega)]
    · rw [List.getElem?_append_right (by omega), hB, List.getElem?_drop, if_neg (by omega)]
      congr 1; omega
section
variable {X : Ctx} {T : TypeId → Option TyD} (hT : TabOk X.P T) {all : Array Oper} {s : St} {x y : Operand} {t ty e : TypeId} {pos : String} {after : Array Edge} {g : Option (Nat × Bool)} {d : Option Tmp} {td ed : TyD} {k o n : Nat} {α : Type} {en : α → List D} {z : α} {l l2 : List α}
  (hg : gd all s ⟨d, .call ⟨.builtin .copy, #[x, y], #[t, t]⟩, ty, pos, after, g⟩ = some true) (hd : dstOk X.N d = true) (ht : T t = some td) (hds : td.desc = .slice e) (he : T e = some ed)
include hT hg hd ht hds he
end
section
variable {X : Ctx} {all : Array Oper} {o : Oper} {rest : List Oper} {Q : Exit → St → Prop} {s : St} {td ed : TyD} {α : Type} {en : α → List D} {z : α} {l l2 : List α}
end
section
variable {ex : Bool} {X : Ctx} {all : Array Oper} {o : Oper} {pre rest : List Oper} {Q : Exit → St → Prop} {s : St} {td ed : TyD} {α : Type} {en : α → List D} {z : α} {l : List α}
end
/-! ## Where ways meet, in another form -/

def Conv (X : Ctx) (s s' : St) : Prop := ∀ io F a w, SR X io F s a w → ∃ io' F', SR X io' F' s' a w
section
variable {X : Ctx} {s s' s'' : St}
theorem Conv.refl : Conv X s s := fun io F _ _ hs => ⟨io, F, hs⟩
theorem Conv.trans (h : Conv X s s') (k : Conv X s' s'') : Conv X s s'' := fun io F a w hs => by
  obtain ⟨io', F', hs'⟩ := h io F a w hs
  exact k io' F' a w hs'
end
end Go.Vw

/-
  clear of a part of a list of the call's own. Conditions: the table of types is the program's.
-/
namespace Go.Vw
open Go.RowKit
theorem run_clearOp {P : Program} {ev : Operand → Value} {dst : Option Tmp} {y : Operand} {t ty : TypeId} {pos : String} {after : Array Edge} {g : Option (Nat × Bool)} {w w' : World} {v : Value} (hv : (Builtin.clear_ #[t] ty #[ev y]).run P w = .ok v w') : (execOp ev ⟨dst, .call ⟨.builtin .clear, #[y], #[t]⟩, ty, pos, after, g⟩).run P w = .ok (.value v) w' := by
  simp [execOp, resolve, invoke, builtin, hv]
section
variable {X : Ctx} {T : TypeId → Option TyD} (hT : TabOk X.P T) {all : Array Oper} {s : St} {x : Operand} {t ty e : TypeId} {pos : String} {after : Array Edge} {g : Option (Nat × Bool)} {d : Option Tmp} {td ed : TyD} {k o n : Nat} {α : Type} {en : α → List D} {z : α} {l : List α}
  (hg : gd all s ⟨d, .call ⟨.builtin .clear, #[x], #[t]⟩, ty, pos, after, g⟩ = some true) (hd : dstOk X.N d = true) (ht : T t = some td) (hds : td.desc = .slice e) (he : T e = some ed)
include hT hg hd ht hds he
theorem e_clear (hx : s.opd x = .own k o n e ed.size) (hk : s.blk k = some (.data e ed.size en z l)) (hn : o + n ≤ l.length) (hzo : zeroOk ed = true) (le : LeL (D.ofV ed.zero).cells (en z)) :
    E1 X all s ⟨d, .call ⟨.builtin .clear, #[x], #[t]⟩, ty, pos, after, g⟩ ((s.withBlk k (.data e ed.size en z (copyL l o n (List.replicate n z)))).put d (.d .undef)) := by
  intro io F a w hs K Q hQ
  have hw := gd_sound (fun t _ => hs.tm t) hg
  obtain ⟨i, hi, his, hib, hiz⟩ := (hT _ _ he).inf
  obtain ⟨z1, z2, z3, z4⟩ := zeroOk_sound (F := F) (w := w) hzo
  have hund := (hT _ _ ht).und
  rw [hds] at hund
  have hv := hs.opd x
  rw [hx] at hv
  have hbr := hs.bl k _ hk
  simp only [BR] at hbr
  have lrep : (List.replicate n z).length = n := List.length_replicate
  have zero : n = 0 → (∃ p c, a.eval x = .slice p 0 c) → opWp X.P all ⟨d, .call ⟨.builtin .clear, #[x], #[t]⟩, ty, pos, after, g⟩ a w K Q := fun h0 ⟨p, c, e1⟩ => by
    have hself : copyL l o n (List.replicate n z) = l := by
      refine List.ext_getElem? fun j => ?_
      rw [copyL_get hn, if_neg (by omega)]
    have hst : s.withBlk k (.data e ed.size en z (copyL l o n (List.replicate n z))) = s := by
      rw [hself]
      refine St.eta (funext fun t => rfl) (funext fun j => ?_) rfl
      by_cases e' : j = k
      · subst e'; rw [withBlk_same, hk]
      · rw [withBlk_ne e']
    have hrun : (Builtin.clear_ #[t] ty #[a.eval x]).run X.P w = .ok (.tuple #[]) w := by
      rw [e1]
      cases p <;> simp [Builtin.clear_, run_underlying hund]
    refine opWp_value hw (run_clearOp hrun) (hQ io F _ _ ?_)
    rw [hst]
    exact hs.put (dstOk_sound hd) (VR.undef _)
  simp only [VR] at hv
  rcases hv with ⟨_, e1, h0, _⟩ | ⟨b, cap, arr, hio, e1, hcap, hcm, hh, hsz, hln⟩
  · exact zero h0 ⟨_, _, e1⟩
  · by_cases hm0 : n = 0
    · subst hm0; exact zero rfl ⟨_, _, e1⟩
    · rcases hbr with ⟨g, _⟩ | ⟨b', arr', g1, hF, hA, g4, hr⟩
      · rw [g] at hio; cases hio
      · rw [hio] at g1; cases g1
        rw [hh] at g4; cases g4
        have hlra := lra_replicate z1 z2 z3 z4 le n n (Nat.le_refl _)
        obtain ⟨news, n1, n2, n3, n4⟩ := lra_vals (List.replicate n z) 0 hlra
        rw [lrep] at n1
        have hflat : news = (List.replicate n ed.zero.cells.toList).flatten := by
          refine List.ext_getElem? fun j => ?_
          by_cases hj : j < news.length
          · have := n2 j hj
            rw [← this, Nat.zero_add, List.getElem?_toArray]
          · have hlen : (List.replicate n ed.zero.cells.toList).flatten.length = n * ed.size := by simp [z1]
            rw [List.getElem?_eq_none (by omega), List.getElem?_eq_none (by omega)]
        have hfit : o * ed.size + news.length ≤ arr.size := by
          rw [hsz, n1, Nat.add_mul]
          have : n * ed.size ≤ cap * ed.size := Nat.mul_le_mul_right _ (by omega)
          omega
        have hst := run_storeCells_at X.P b (o * ed.size) e news 0 arr w hh (by simpa using hfit) n4
        simp only [Nat.add_zero] at hst
        have hrow : (Builtin.zeroCells ed.zero.cells n).toList = news := by
          have := range_zero ed.zero.cells (by omega) n
          unfold Builtin.zeroCells
          rw [this, hflat]
        have hrun : (Builtin.clear_ #[t] ty #[a.eval x]).run X.P w = .ok (.tuple #[]) (w.setRow b (putRow arr (o * ed.size) news)) := by
          rw [e1]
          have e3 : (arr.toList.take (o * ed.size) ++ news ++ arr.toList.drop (o * ed.size + news.length)).toArray = putRow arr (o * ed.size) news := by unfold putRow; rw [List.append_assoc]
          rw [e3] at hst
          obtain ⟨n', rfl⟩ : ∃ n', n = n' + 1 := ⟨n - 1, by omega⟩
          simp [Builtin.clear_, run_underlying hund, zeroValue, typeInfo, hi, hiz, hrow, hst]
        refine opWp_value hw (run_clearOp hrun) (hQ io F _ _ (SR.put (hs.write (by rw [hk]; simp) hio hF hA hh (putRow_size hfit) (nb := .data e ed.size en z (copyL l o n (List.replicate n z))) (by rw [ln_of hk]; simp [Blk.ln, copyL_len hn]) (.inl ⟨_, _, en, z, _, rfl, fun j c' hj => ?_⟩)) (dstOk_sound hd) (VR.undef _)))
        rw [Nat.zero_add]
        rw [copyL_get hn, lrep, Nat.min_self] at hj
        split at hj
        · rename_i hc
          obtain ⟨q1, q2⟩ := n3 (j - o) c' hj
          refine ⟨q1, DRA.congr (fun i' hi' => ?_) q2⟩
          have h1 : (j - o) * ed.size + o * ed.size = j * ed.size := by rw [← Nat.add_mul]; congr 1; omega
          have h2 : (j - o + 1) * ed.size ≤ n * ed.size := Nat.mul_le_mul_right _ (by omega)
          rw [Nat.add_mul] at h2
          rw [putRow_get hfit, if_pos (by omega)]
          congr 1; omega
        · rename_i hc
          obtain ⟨q1, q2⟩ := hr j c' hj
          refine ⟨q1, DRA.congr (fun i' hi' => ?_) q2⟩
          rw [Nat.zero_add, putRow_get hfit, if_neg]
          intro hcc
          by_cases hjo : j < o
          · have : (j + 1) * ed.size ≤ o * ed.size := Nat.mul_le_mul_right _ hjo
            rw [Nat.add_mul] at this; omega
          · have : (o + n) * ed.size ≤ j * ed.size := Nat.mul_le_mul_right _ (by omega)
            rw [Nat.add_mul] at this; omega
end
section
variable {X : Ctx} {all : Array Oper} {o : Oper} {rest : List Oper} {Q : Exit → St → Prop} {s : St} {td ed : TyD} {α : Type} {en : α → List D} {z : α} {l : List α}
theorem stepClear {d : Option Tmp} {t : TypeId} {c : Call} {x : Operand} {e : TypeId} {k i n : Nat} (hop : o.op = .call c) (hc : c = ⟨.builtin .clear, #[x], #[t]⟩) (hdst : o.dst = d) (hg : gd all s o = some true) (hd : dstOk X.N d = true) (ht : X.T t = some td) (hds : td.desc = .slice e) (he : X.T e = some ed) (hx : s.opd x = .own k i n e ed.size) (hk : s.blk k = some (.data e ed.size en z l)) (hz : zeroOk ed = true) (le : LeL (D.ofV ed.zero).cells (en z)) (hn : i + n ≤ l.length) (r : awpL X all rest Q ((s.withBlk k (.data e ed.size en z (copyL l i n (List.replicate n z)))).put d (.d .undef))) : awpL X all (o :: rest) Q s := by
  obtain ⟨dst, op, ty, pos, after, g⟩ := o
  cases hop; cases hdst; subst hc
  exact awpL_step (e_clear X.ok hg hd ht hds he hx hk hn hz le) r
end
end Go.Vw

/-
  A variable's data in another form; reading a literal as a list. Conditions: as each says.
-/
namespace Go.Vw
section
variable {X : Ctx} {all : Array Oper} {s : St} {o : Oper} {Q : Exit → St → Prop} {rest : List Oper} {d : Tmp} {α : Type} {en : α → List D} {z : α} {l : List α}
theorem e_litO {e : TypeId} {sz len : Nat} {rows : List (List D)} {dst : Option Tmp} {op : Op} {ty : TypeId} {pos : String} {after : Array Edge} {g : Option (Nat × Bool)} (hdst : dst = some d) (hg : gd all s ⟨dst, op, ty, pos, after, g⟩ = some true) (hd : dstOk X.N (some d) = true) (hK : X.K.contains d = false) (h : evalB X.T s op = some (e, sz, len, rows)) (hr : LeR sz rows en l) :
    E1 X all s ⟨dst, op, ty, pos, after, g⟩ ((s.new d (.data e sz en z l)).put (some d) (.own d 0 len e sz)) := by
  subst hdst
  intro io F a w hs K Q hQ
  have hw := gd_sound (fun t _ => hs.tm t) hg
  obtain ⟨h1, arr, h2, h3, h4, h5⟩ := evalB_sound (P := X.P) (ev := a.eval) X.ok ⟨some d, op, ty, pos, after, g⟩ (fun y _ => hs.opd y) h
  obtain ⟨r1, r2⟩ := hr.spec
  have hlra : LRA F w (fun j => arr[j]?) 0 sz en l := fun i b hi => by
    have hlt : i < rows.length := by have := (List.getElem?_eq_some_iff.1 hi).1; omega
    obtain ⟨q1, q2⟩ := r2 i _ b (List.getElem?_eq_getElem hlt) hi
    obtain ⟨p1, p2⟩ := h5 i _ (List.getElem?_eq_getElem hlt)
    exact ⟨q2.1 ▸ q1, by rw [Nat.zero_add]; exact q2.2 F w _ _ p2⟩
  have hnb := hs.newBlk d (notMem hK) e arr (.data e sz en z l) (.inl ⟨_, _, _, _, _, rfl, hlra⟩)
  refine opWp_value hw h2 (hQ _ F _ _ (hnb.put (dstOk_sound hd) ?_))
  simp only [VR]
  refine .inr ⟨w.heap.size, len, _, updio_same _ _ _, by rw [Nat.zero_mul], by omega, by unfold maxLen; omega, heap_alloc_new w _, by simp [h3], ?_⟩
  show 0 + len ≤ (s.new d _).ln d
  rw [show (s.new d (.data e sz en z l)).ln d = _ from ln_of withBlk_same]
  simp [Blk.ln]; omega
theorem stepLitO {e : TypeId} {sz len : Nat} {rows : List (List D)} (hdst : o.dst = some d) (h : evalB X.T s o.op = some (e, sz, len, rows)) (hg : gd all s o = some true) (hd : dstOk X.N (some d) = true) (hK : X.K.contains d = false) (hr : LeR sz rows en l) (r : awpL X all rest Q ((s.new d (.data e sz en z l)).put (some d) (.own d 0 len e sz))) : awpL X all (o :: rest) Q s := by
  obtain ⟨dst, op, ty, pos, after, g⟩ := o
  exact awpL_step (e_litO hdst hg hd hK h hr) r
end
end Go.Vw

/-
  Drawn regions with one call that is lent blocks of the call's own. Conditions: the table of types is the program's.
-/
namespace Go.Vw
open Go.RowKit
inductive UpdB : Type 1 where
  | reg (d : Option Tmp) (x : V)
  | call (d : Tmp) (x : V) (bs : List (Nat × Blk))
def UpdB.dst : UpdB → Option Tmp
  | .reg d _ => d
  | .call d _ _ => some d
def conflB (all : Array Oper) (a b : Oper) : Bool := looksB all b a.dst || looksB all a b.dst || (match a.dst, b.dst with | some x, some y => x == y | _, _ => false)
def ordB (ops : Array Oper) (n : Nat) : Bool :=
  backward ops && Nat.ble n ops.size &&
  ((List.range n).all fun j => match ops[j]? with
    | some b => (List.range j).all fun i => match ops[i]? with
      | some a => !(conflB ops a b) || ((masks ops.toList []).getD j 0).testBit i
      | none => false
    | none => false) &&
  ((List.range ops.size).all fun i => Nat.blt i n || Nat.beq ((masks ops.toList []).getD i 0) (2 ^ i - 1))
structure OrdB (ops : Array Oper) (n : Nat) : Prop where
  tf : TailFacts ops n
  ord : ∀ i j a b, i < j → j < n → ops[i]? = some a → ops[j]? = some b → conflB ops a b = true → ((masks ops.toList []).getD j 0).testBit i = true
theorem ordB_spec {ops : Array Oper} {n : Nat} (h : ordB ops n = true) : OrdB ops n := by
  simp only [ordB, Bool.and_eq_true] at h
  obtain ⟨⟨⟨hb, hle⟩, hm⟩, ht⟩ := h
  refine ⟨⟨fun i o hi e he hbind => ?_, Nat.le_of_ble_eq_true hle, fun i h1 h2 j hj => ?_⟩, fun i j a b hij hj ha hb' hc => ?_⟩
  · simp only [backward, List.all_eq_true, List.mem_range] at hb
    have := hb i (Array.getElem?_eq_some_iff.1 hi).1
    rw [hi] at this
    simp only [List.all_eq_true] at this
    have := this e (by simpa using he)
    rw [hbind] at this
    simpa [Nat.blt_eq] using this
  · simp only [List.all_eq_true, List.mem_range] at ht
    have h3 := ht i h2
    have hnb : Nat.blt i n = false := by
      cases hq : Nat.blt i n with
      | false => rfl
      | true => have : i < n := by simpa [Nat.blt_eq] using hq
                omega
    rw [hnb, Bool.false_or] at h3
    have h4 := Nat.eq_of_beq_eq_true h3
    rw [h4, Nat.testBit_two_pow_sub_one]
    simpa using hj
  · simp only [List.all_eq_true, List.mem_range] at hm
    have h1 := hm j hj
    rw [hb'] at h1
    simp only [List.all_eq_true, List.mem_range] at h1
    have h2 := h1 i hij
    rw [ha] at h2
    simp only [hc, Bool.not_true, Bool.false_or] at h2
    exact h2

inductive PRunB (X : Ctx) (all : Array Oper) (kk : List Nat) (c : Nat) : Nat → List Oper → St → St → Prop
  | nil {m : Nat} {s : St} : PRunB X all kk c m [] s s
  | reg {m : Nat} {o : Oper} {rest : List Oper} {s s' : St} {x : V} (hmc : m ≠ c) (hd : dstOk X.N o.dst = true) (h : ∀ s' : St, (∀ t ∈ o.looksAt all, s'.tmps t = s.tmps t) → (∀ k, kk.contains k = false → s'.blk k = s.blk k) → M1 X all s' o x) (k : PRunB X all kk c (m + 1) rest (s.put o.dst x) s') : PRunB X all kk c m (o :: rest) s s'
  | call {m : Nat} {o : Oper} {rest : List Oper} {s s' : St} {d : Tmp} {x : V} {bs : List (Nat × Blk)} (hmc : m = c) (hd : o.dst = some d) (hk : ∀ k, kk.contains k = false → lookB bs k = none) (h : ∀ s' : St, s'.blk = s.blk → (∀ t ∈ o.looksAt all, s'.tmps t = s.tmps t) → E1 X all s' o ((s'.over bs).put (some d) x)) (k : PRunB X all kk c (m + 1) rest ((s.over bs).put (some d) x) s') : PRunB X all kk c m (o :: rest) s s'
inductive UpdOkB (X : Ctx) (all : Array Oper) (kk : List Nat) (c m : Nat) (s : St) (o : Oper) : UpdB → Prop
  | reg {x : V} (hmc : m ≠ c) (hd : dstOk X.N o.dst = true) (h : ∀ s' : St, (∀ t ∈ o.looksAt all, s'.tmps t = s.tmps t) → (∀ k, kk.contains k = false → s'.blk k = s.blk k) → M1 X all s' o x) : UpdOkB X all kk c m s o (.reg o.dst x)
  | call {d : Tmp} {x : V} {bs : List (Nat × Blk)} (hmc : m = c) (hd : o.dst = some d) (hk : ∀ k, kk.contains k = false → lookB bs k = none) (h : ∀ s' : St, s'.blk = s.blk → (∀ t ∈ o.looksAt all, s'.tmps t = s.tmps t) → E1 X all s' o ((s'.over bs).put (some d) x)) : UpdOkB X all kk c m s o (.call d x bs)
section
variable {X : Ctx} {all : Array Oper} {Q : Exit → St → Prop} {s : St} {o : Oper} {pre rest : List Oper} {kk : List Nat} {c m : Nat}
end
end Go.Vw

/-
  A slice held against nil: what is known of the outcome. Conditions: the table of types is the program's.
-/
namespace Go.Vw
open Go.RowKit

theorem run_isNil {P : Program} {w : World} {t e t2 : TypeId} {td : TyD} (ht : TyOk P t td) (hd : td.desc = .slice e) {ev : Operand → Value} {x y : Operand} {dst : Option Tmp} {ty : TypeId} {pos : String} {after : Array Edge} {g : Option (Nat × Bool)} {p : Option Addr} {n c : Nat} (hx : ev x = .slice p n c) (hy : ev y = .slice none 0 0) (neg : Bool) :
    (execOp ev ⟨dst, .binOp (if neg then .neq else .eql) t x y t2, ty, pos, after, g⟩).run P w = .ok (.value (.bool (neg != p.isNone))) w := by
  have hu := ht.und
  rw [hd] at hu
  have h1 : (Op.equal t (.slice p n c) (.slice none 0 0)).run P w = .ok p.isNone w := by
    have : ∀ d, (Op.equalIn (d + 1) t (.slice p n c) (.slice none 0 0)).run P w = .ok p.isNone w := fun d => by
      cases p <;> simp [Op.equalIn, run_underlying hu]
    exact this 9999
  cases neg <;> simp [execOp, hx, hy, eqGuard, binOp, h1]

section
variable {X : Ctx} {all : Array Oper} {rest : List Oper} {Q : Exit → St → Prop} {s : St} {o : Oper} {d : Tmp}
theorem awpL_isNil {t t2 e : TypeId} {td : TyD} {x y : Operand} {sz : Nat} {α : Type} {en : α → List D} {z : α} {l : List α} (hop : o.op = .binOp .eql t x y t2) (hdst : o.dst = some d) (hx : s.opd x = .d (.sl sz en z l)) (hy : s.opd y = .d .nils) (hg : gd all s o = some true) (hd : dstOk X.N (some d) = true) (ht : X.T t = some td) (hds : td.desc = .slice e) (k : ∀ b : Bool, (l ≠ [] → b = false) → awpL X all rest Q (s.put (some d) (.d (.bool b)))) : awpL X all (o :: rest) Q s := by
  obtain ⟨dst, op, ty, pos, after, g⟩ := o
  cases hop; cases hdst
  intro io F a w hs
  have hvx := hs.opd x
  have hvy := hs.opd y
  rw [hx] at hvx; rw [hy] at hvy
  simp only [VR, DR] at hvx hvy
  have key : ∀ (p : Option Addr) n c, a.eval x = .slice p n c → (l ≠ [] → p.isNone = false) → wpList X.P all (lift X Q) (⟨some d, .binOp .eql t x y t2, ty, pos, after, g⟩ :: rest) a w := fun p n c e hl => by
    have hr := run_isNil (P := X.P) (w := w) (dst := some d) (ty := ty) (pos := pos) (after := after) (g := g) (t2 := t2) (X.ok _ _ ht) hds e hvy false
    refine wpList_cons (opWp_value (gd_sound (fun t _ => hs.tm t) hg) (v := .bool p.isNone) (by simpa using hr) ?_)
    exact k p.isNone hl io F _ w (hs.put (dstOk_sound hd) (by simp only [VR, DR]))
  rcases hvx with ⟨⟨p, c0, e⟩, rfl⟩ | ⟨b, off, cap, arr, ty', fz, e, _⟩
  · exact key p 0 c0 e fun h => absurd rfl h
  · exact key _ _ _ e fun _ => rfl
end
end Go.Vw

/-
  Lists of terms: what the library's functions and the program's sums and crossings give. Conditions: as each says.
-/
set_option maxHeartbeats 8000000
namespace Go.Proofs.Ytjooknpgcjicbaa
open Go.Vw
attribute [local irreducible] awp awpL awpR

abbrev tT : TypeId := 62
abbrev tsD (l : List Nat) : D := .sl 1 (eN .u64) 0 l
theorem slices_IndexT (l : List Nat) (t : Nat) (hl : l.length ≤ 1000000) : ∃ n : Int, (0 ≤ n ↔ t ∈ l) ∧ Ret Try.prog 61 [tsD l, tD t] (· = .int .i64 n) := by
  by_cases hm : t ∈ l
  · obtain ⟨j, hj, h1, h2⟩ : ∃ j, j < l.length ∧ l.getD j 0 = t ∧ ∀ i, i < j → l.getD i 0 ≠ t := by
      clear hl
      induction l with
      | nil => cases hm
      | cons a l ih =>
        by_cases e : a = t
        · exact ⟨0, by simp, e, fun i hi => by omega⟩
        · obtain ⟨j, a1, a2, a3⟩ := ih ((List.mem_cons.1 hm).resolve_left (Ne.symm e))
          exact ⟨j + 1, by simp; omega, a2, fun i hi => by cases i with | zero => exact e | succ i => exact a3 i (by omega)⟩
    refine ⟨j, ⟨fun _ => hm, fun _ => by omega⟩, ?_⟩
    clear hm
    refine ret_of_awp tab Try.func61 rfl rfl (Nat.le_of_ble_eq_true rfl) (fun w0 F0 => ?_)
    repeat' (first | refine wG ?_ | refine wR ?_ | refine wS ?_ ?_ <;> intro _ | refine finG ?_)
    refine awp_loop1 (fun (i : Nat) => ([(0, .d (tsD l)), (1, .d (tD t)), (7, .d (.int .i64 l.length)), (8, .d (.int .i64 i))], [])) (fun i => i ≤ j) (fun i => l.length - i) 0 (by omega) ⟨rfl, rfl, rfl, rfl, rfl⟩ trivial (fun i hi => ?_)
    by_cases h3 : i < j
    · have q := h2 i h3
      clear h1 h2
      repeat' (first | refine wG ?_ | refine wR ?_ | refine wS ?_ ?_ <;> intro _ | refine finG ?_)
      exact ⟨i + 1, by omega, by omega, ⟨rfl, rfl, rfl, iv (by omega), rfl⟩, trivial⟩
    · have e : i = j := by omega
      subst e
      clear h2
      repeat' (first | refine wG ?_ | refine wR ?_ | refine wS ?_ ?_ <;> intro _ | refine finG ?_)
      rfl
  · have h2 : ∀ i, i < l.length → l.getD i 0 ≠ t := fun i hi e => hm (by
      rw [List.getD_eq_getElem?_getD, List.getElem?_eq_getElem hi] at e
      exact e ▸ List.getElem_mem hi)
    refine ⟨-1, ⟨fun h => absurd h (by decide), fun h => absurd h hm⟩, ?_⟩
    clear hm
    refine ret_of_awp tab Try.func61 rfl rfl (Nat.le_of_ble_eq_true rfl) (fun w0 F0 => ?_)
    repeat' (first | refine wG ?_ | refine wR ?_ | refine wS ?_ ?_ <;> intro _ | refine finG ?_)
    refine awp_loop1 (fun (i : Nat) => ([(0, .d (tsD l)), (1, .d (tD t)), (7, .d (.int .i64 l.length)), (8, .d (.int .i64 i))], [])) (fun i => i ≤ l.length) (fun i => l.length - i) 0 (by omega) ⟨rfl, rfl, rfl, rfl, rfl⟩ trivial (fun i hi => ?_)
    by_cases h3 : i < l.length
    · have q := h2 i h3
      clear h2
      repeat' (first | refine wG ?_ | refine wR ?_ | refine wS ?_ ?_ <;> intro _ | refine finG ?_)
      exact ⟨i + 1, by omega, by omega, ⟨rfl, rfl, rfl, iv (by omega), rfl⟩, trivial⟩
    · have e : i = l.length := by omega
      subst e
      clear h2
      repeat' (first | refine wG ?_ | refine wR ?_ | refine wS ?_ ?_ <;> intro _ | refine finG ?_)
      rfl
theorem slices_ContainsT (l : List Nat) (t : Nat) (hl : l.length ≤ 1000000) : Ret Try.prog 27 [tsD l, tD t] (· = .bool (decide (t ∈ l))) := by
  obtain ⟨n, h, ix⟩ := slices_IndexT l t hl
  rw [show decide (t ∈ l) = decide (0 ≤ n) from decide_eq_decide.2 h.symm]
  refine ret_of_awp tab Try.func27 rfl rfl (Nat.le_of_ble_eq_true rfl) (fun w0 F0 => ?_)
  repeat' (first | refine wG ?_ | refine wC ix ?_ | refine wR ?_ | refine wS ?_ ?_ <;> intro _ | refine finG ?_)
  rfl
abbrev tO (n : Nat) : V := .own 5 0 n tT 1
abbrev tB (l : List Nat) : Blk := .data tT 1 (eN .u64) 0 l
theorem slices_CloneT (l : List Nat) (hl : l.length ≤ 1000000) : RetB Try.prog 63 [.d (tsD l)] (lookB []) (tO l.length) (lookB [(5, tB l)]) := by
  refine retB_of_awp tab [] Try.func63 rfl rfl rfl (Nat.le_of_ble_eq_true rfl) rfl trivial (fun w0 F0 A io0 => ?_)
  repeat' (first | refine wG ?_ | refine wR ?_ | refine wS ?_ ?_ <;> intro _ | refine wB ?_ ?_ | refine wF ?_)
  refine awpL_isNil rfl rfl rfl rfl rfl rfl rfl rfl (fun b hb => ?_)
  cases b with
  | true =>
    have : l = [] := Classical.byContradiction fun h => by simpa using hb h
    subst this
    repeat' (first | refine stopA 2 tt ?_ | refine wG ?_ | refine wR ?_ | refine wS ?_ ?_ <;> intro _ | refine wB ?_ ?_ | refine wF ?_)
    refine stopOut ?_
    refine awp_seq ?_
    refine awp_region ?_
    refine goL ?_
    refine awpL_then ?_
    refine awp_adopt 2 5 tT 1 (eN .u64) 0 rfl ?_
    repeat' (first | refine wG ?_ | refine wR ?_ | refine wS ?_ ?_ <;> intro _ | refine wB ?_ ?_ | refine wF ?_)
    all_goals first | exact leVT | exact ⟨rfl, trivial⟩
  | false =>
    repeat' (first | refine stepLitO (d := 5) (en := eN .u64) (z := 0) rfl rfl rfl rfl rfl LeR.nil ?_ | refine wG ?_ | refine wR ?_ | refine wS ?_ ?_ <;> intro _ | refine wB ?_ ?_ | refine wF ?_)
    all_goals first | exact leVT | exact ⟨rfl, trivial⟩
end Go.Proofs.Ytjooknpgcjicbaa

/-
  What fits, fits in part. Conditions: none.
-/
namespace Go.Vw
theorem nodup_sub_len : ∀ {l m : List Nat}, l.Nodup → (∀ t ∈ l, t ∈ m) → l.length ≤ m.length
  | [], _, _, _ => Nat.zero_le _
  | a :: l, m, h, hs => by
    have ha := hs a List.mem_cons_self
    have h2 := (List.nodup_cons.1 h)
    have := nodup_sub_len (l := l) (m := m.erase a) h2.2 fun t ht => by
      have ne : t ≠ a := fun e => h2.1 (e ▸ ht)
      exact (List.mem_erase_of_ne ne).2 (hs t (List.mem_cons_of_mem _ ht))
    rw [List.length_erase_of_mem ha] at this
    have : 0 < m.length := List.length_pos_of_mem ha
    rw [List.length_cons]; omega
theorem fitsM_iff {l : List Nat} : fitsM l = true ↔ l.length ≤ 32 ∧ ∀ t ∈ l, popc t ≤ 6 := by
  unfold fitsM; rw [Bool.and_eq_true, decide_eq_true_eq, List.all_eq_true]
  simp only [decide_eq_true_eq]
theorem fits_sub {l m : List Nat} (hl : l.Nodup) (hs : ∀ t ∈ l, t ∈ m) (h : fitsM m = true) : fitsM l = true := by
  obtain ⟨h1, h2⟩ := fitsM_iff.1 h
  exact fitsM_iff.2 ⟨Nat.le_trans (nodup_sub_len hl hs) h1, fun t ht => h2 t (hs t ht)⟩
theorem fits_cross_of_star {a b : List Nat} (h : fitsM (starM a b) = true) : fitsM (crossM a b) = true := fits_sub nodup_crossM (fun t ht => mem_plusM.2 (.inr ht)) h
theorem fits_cross_of_nest {a b : List Nat} (h : fitsM (nestM a b) = true) : fitsM (crossM [orM a] b) = true := fits_sub nodup_crossM (fun t ht => mem_plusM.2 (.inr ht)) h
theorem nodup_starM {a b : List Nat} (h : a.Nodup) : (starM a b).Nodup := nodup_plusM (nodup_plusM h)
theorem nodup_nestM {a b : List Nat} (h : a.Nodup) : (nestM a b).Nodup := nodup_plusM h
theorem nodup_powM {a : List Nat} (h : a.Nodup) : ∀ k, (powM a k).Nodup
  | 0 => h
  | k + 1 => nodup_starM (nodup_powM h k)
theorem fits_pow_step {a : List Nat} (ha : a.Nodup) {k : Nat} (h : fitsM (powM a (k + 1)) = true) : fitsM (powM a k) = true :=
  fits_sub (nodup_powM ha k) (fun t ht => mem_plusM.2 (.inl (mem_plusM.2 (.inl ht)))) h
theorem fits_pow_le {a : List Nat} (ha : a.Nodup) {k : Nat} : ∀ {j : Nat}, fitsM (powM a (k + j)) = true → fitsM (powM a k) = true
  | 0, h => h
  | j + 1, h => fits_pow_le ha (j := j) (fits_pow_step ha h)
def opM (op : Int) (a b : List Nat) : List Nat := if op = 5 then plusM a b else if op = 6 then minusM a b else if op = 7 then crossM a b else if op = 8 then starM a b else nestM a b
theorem nodup_opM {op : Int} {a b : List Nat} (h : a.Nodup) : (opM op a b).Nodup := by
  unfold opM
  repeat' split
  · exact nodup_plusM h
  · exact nodup_minusM h
  · exact nodup_crossM
  · exact nodup_starM h
  · exact nodup_nestM h
theorem BdM.op {n : Nat} {op : Int} {a b : List Nat} (ha : BdM n a) (hb : BdM n b) : BdM n (opM op a b) := by
  unfold opM
  repeat' split
  · exact ha.plus hb
  · exact ha.minus
  · exact ha.cross hb
  · exact ha.star hb
  · exact ha.nest hb
theorem fitsM_len {l : List Nat} (h : fitsM l = true) : l.length ≤ 32 := (fitsM_iff.1 h).1
end Go.Vw

/-
  Sums, differences and crossings of terms, as the program makes them. Conditions: as each says.
-/
set_option maxHeartbeats 8000000
namespace Go.Proofs.Ytjooknpgcjicbaa
open Go.Vw
attribute [local irreducible] awp awpL awpR

theorem tOEq {n m : Nat} (h : n = m) : tO n = tO m := by rw [h]
theorem tBEq {l m : List Nat} (h : l = m) : some (tB l) = some (tB m) := by rw [h]
theorem terms_with (a b : List Nat) (ha : a.length ≤ 100000) (hb : b.length ≤ 10000) : Ret Try.prog 91 [tsD a, tsD b] (· = tsD (plusM a b)) := by
  have cl := slices_CloneT a (by omega)
  obtain ⟨P, hP⟩ : ∃ P : Nat → List Nat, ∀ i, P i = plusM a (b.take i) := ⟨fun i => plusM a (b.take i), fun _ => rfl⟩
  have p0 : P 0 = a := by rw [hP]; rfl
  have pS : ∀ i, i < b.length → P (i + 1) = add1 (P i) (b.getD i 0) := fun i hi => by rw [hP, hP, take_snoc 0 hi, plusM_snoc]
  have pL : ∀ i, (P i).length ≤ 110000 := fun i => by
    rw [hP]
    have := (plusM_le a (b.take i)).2
    rw [List.length_take] at this; omega
  rw [show plusM a b = P b.length by rw [hP, List.take_of_length_le (Nat.le_refl _)]]
  clear hP
  refine ret_of_awp tab Try.func91 rfl rfl (Nat.le_of_ble_eq_true rfl) (fun w0 F0 => ?_)
  repeat' (first | refine wG ?_ | refine wD [5] cl ?_ | refine wR ?_ | refine wS ?_ ?_ <;> intro _ | refine finG ?_)
  refine awp_loop1 (fun (i : Nat) => ([(5, tO (P i).length), (10, .d (tsD b)), (11, .d (.int .i64 b.length)), (12, .d (.int .i64 i))], [(5, tB (P i))])) (fun i => i ≤ b.length) (fun i => b.length - i) 0 (by omega) ⟨tOEq (by rw [p0]), rfl, rfl, rfl, rfl⟩ ⟨tBEq p0.symm, trivial⟩ (fun i hi => ?_)
  have hl := pL i
  by_cases h3 : i < b.length
  · have st := pS i h3
    have c := slices_ContainsT (P i) (b.getD i 0) (by omega)
    unfold add1 at st
    by_cases hm : b.getD i 0 ∈ P i
    · rw [if_pos hm] at st
      rw [decide_eq_true hm] at c
      clear pS pL
      repeat' (first | refine wG ?_ | refine wC c ?_ | refine wR ?_ | refine wS ?_ ?_ <;> intro _ | refine finG ?_)
      exact ⟨i + 1, by omega, by omega, ⟨tOEq (by rw [st]), rfl, rfl, iv (by omega), rfl⟩, tBEq st.symm, trivial⟩
    · rw [if_neg hm] at st
      rw [decide_eq_false hm] at c
      clear pS pL
      repeat' (first | refine wG ?_ | refine wC c ?_ | refine wR ?_ | refine wS ?_ ?_ <;> intro _ | refine finG ?_)
      exact ⟨i + 1, by omega, by omega, ⟨tOEq (by rw [st]), rfl, rfl, iv (by omega), rfl⟩, tBEq st.symm, trivial⟩
  · have e : i = b.length := by omega
    subst e
    clear pS pL
    repeat' (first | refine wG ?_ | refine wR ?_ | refine wS ?_ ?_ <;> intro _ | refine finG ?_)
    rfl
theorem checked_idx (l : List Nat) (hl : l.length ≤ 1000000) (hb : BdM 64 l) : ∃ n : Int, (0 ≤ n ↔ ∃ t ∈ l, 6 < popc t) ∧ Ret Try.prog 96 [tsD l, .fn 103 []] (· = .int .i64 n) := by
  have hf := fun i => checked_one (l.getD i 0) (hb.getD i)
  by_cases hm : ∃ t ∈ l, 6 < popc t
  · obtain ⟨j, hj, h1, h2⟩ : ∃ j, j < l.length ∧ 6 < popc (l.getD j 0) ∧ ∀ i, i < j → ¬ 6 < popc (l.getD i 0) := by
      clear hl hf hb
      induction l with
      | nil => obtain ⟨t, h, _⟩ := hm; cases h
      | cons a l ih =>
        by_cases e : 6 < popc a
        · exact ⟨0, by simp, e, fun i hi => by omega⟩
        · obtain ⟨j, a1, a2, a3⟩ := ih (by
            obtain ⟨t, h, q⟩ := hm
            rcases List.mem_cons.1 h with r | r
            · subst r; exact absurd q e
            · exact ⟨t, r, q⟩)
          exact ⟨j + 1, by simp; omega, a2, fun i hi => by cases i with | zero => exact e | succ i => exact a3 i (by omega)⟩
    refine ⟨j, ⟨fun _ => hm, fun _ => by omega⟩, ?_⟩
    clear hm hb
    refine ret_of_awp tab Try.func96 rfl rfl (Nat.le_of_ble_eq_true rfl) (fun w0 F0 => ?_)
    repeat' (first | refine wG ?_ | refine wR ?_ | refine wS ?_ ?_ <;> intro _ | refine finG ?_)
    refine awp_loop1 (fun (i : Nat) => ([(0, .d (tsD l)), (1, .d (.fn 103 [])), (7, .d (.int .i64 l.length)), (8, .d (.int .i64 i))], [])) (fun i => i ≤ j) (fun i => l.length - i) 0 (by omega) ⟨rfl, rfl, rfl, rfl, rfl⟩ trivial (fun i hi => ?_)
    have c := hf i
    by_cases h3 : i < j
    · rw [decide_eq_false (h2 i h3)] at c
      clear h1 h2 hf
      repeat' (first | refine wG ?_ | refine wC c ?_ | refine wR ?_ | refine wS ?_ ?_ <;> intro _ | refine finG ?_)
      exact ⟨i + 1, by omega, by omega, ⟨rfl, rfl, rfl, iv (by omega), rfl⟩, trivial⟩
    · have e : i = j := by omega
      subst e
      rw [decide_eq_true h1] at c
      clear h1 h2 hf
      repeat' (first | refine wG ?_ | refine wC c ?_ | refine wR ?_ | refine wS ?_ ?_ <;> intro _ | refine finG ?_)
      rfl
  · have h2 : ∀ i, i < l.length → ¬ 6 < popc (l.getD i 0) := fun i hi e => hm ⟨_, by rw [List.getD_eq_getElem?_getD, List.getElem?_eq_getElem hi]; exact List.getElem_mem hi, e⟩
    refine ⟨-1, ⟨fun h => absurd h (by decide), fun h => absurd h hm⟩, ?_⟩
    clear hm hb
    refine ret_of_awp tab Try.func96 rfl rfl (Nat.le_of_ble_eq_true rfl) (fun w0 F0 => ?_)
    repeat' (first | refine wG ?_ | refine wR ?_ | refine wS ?_ ?_ <;> intro _ | refine finG ?_)
    refine awp_loop1 (fun (i : Nat) => ([(0, .d (tsD l)), (1, .d (.fn 103 [])), (7, .d (.int .i64 l.length)), (8, .d (.int .i64 i))], [])) (fun i => i ≤ l.length) (fun i => l.length - i) 0 (by omega) ⟨rfl, rfl, rfl, rfl, rfl⟩ trivial (fun i hi => ?_)
    have c := hf i
    by_cases h3 : i < l.length
    · rw [decide_eq_false (h2 i h3)] at c
      clear h2 hf
      repeat' (first | refine wG ?_ | refine wC c ?_ | refine wR ?_ | refine wS ?_ ?_ <;> intro _ | refine finG ?_)
      exact ⟨i + 1, by omega, by omega, ⟨rfl, rfl, rfl, iv (by omega), rfl⟩, trivial⟩
    · have e : i = l.length := by omega
      subst e
      clear h2 hf
      repeat' (first | refine wG ?_ | refine wR ?_ | refine wS ?_ ?_ <;> intro _ | refine finG ?_)
      rfl
theorem checked_any (l : List Nat) (hl : l.length ≤ 1000000) (hb : BdM 64 l) : Ret Try.prog 102 [tsD l, .fn 103 []] (· = .bool (!l.all fun t => decide (popc t ≤ 6))) := by
  obtain ⟨n, h, ix⟩ := checked_idx l hl hb
  rw [show (!l.all fun t => decide (popc t ≤ 6)) = decide (0 ≤ n) by
    rw [← decide_eq_decide.2 h.symm]
    by_cases q : ∃ t ∈ l, 6 < popc t
    · rw [decide_eq_true q, Bool.not_eq_true', Bool.eq_false_iff]
      intro e
      obtain ⟨t, h1, h2⟩ := q
      have := of_decide_eq_true (List.all_eq_true.1 e t h1)
      omega
    · rw [decide_eq_false q, Bool.not_eq_false', List.all_eq_true]
      exact fun t ht => decide_eq_true (Nat.le_of_not_lt fun e => q ⟨t, ht, e⟩)]
  refine ret_of_awp tab Try.func102 rfl rfl (Nat.le_of_ble_eq_true rfl) (fun w0 F0 => ?_)
  repeat' (first | refine wG ?_ | refine wC ix ?_ | refine wR ?_ | refine wS ?_ ?_ <;> intro _ | refine finG ?_)
  rfl
abbrev limV : Value := .iface 54 (D.val (.agg []))
theorem terms_checked (l : List Nat) (hl : l.length ≤ 1000000) (hb : BdM 64 l) (hf : fitsM l = true) : Ret Try.prog 95 [tsD l] (· = tsD l) := by
  have c := checked_any l hl hb
  obtain ⟨h1, h2⟩ := fitsM_iff.1 hf
  rw [show (l.all fun t => decide (popc t ≤ 6)) = true from List.all_eq_true.2 fun t ht => decide_eq_true (h2 t ht)] at c
  clear h2 hf hb
  refine ret_of_awp tab Try.func95 rfl rfl (Nat.le_of_ble_eq_true rfl) (fun w0 F0 => ?_)
  repeat' (first | refine wG ?_ | refine wC c ?_ | refine wR ?_ | refine wS ?_ ?_ <;> intro _ | refine finG ?_)
  rfl
theorem terms_checkedP (l : List Nat) (hl : l.length ≤ 1000000) (hb : BdM 64 l) (hf : fitsM l = false) : PanB Try.prog 95 [.d (tsD l)] (lookB []) limV := by
  have c := checked_any l hl hb
  by_cases h : l.length ≤ 32
  · have : (l.all fun t => decide (popc t ≤ 6)) = false := by
      unfold fitsM at hf
      rw [decide_eq_true h, Bool.true_and] at hf
      exact hf
    rw [this] at c
    clear hf hb this
    refine panB_of_awp tab [] Try.func95 rfl rfl (Nat.le_of_ble_eq_true rfl) (fun w0 F0 A io0 => ?_)
    repeat' (first | refine wX ?_ | refine wE ?_ | refine wG ?_ | refine wC c ?_ | refine wR ?_ | refine wS ?_ ?_ <;> intro _ | exact wQ rfl)
  · clear hf hb c
    refine panB_of_awp tab [] Try.func95 rfl rfl (Nat.le_of_ble_eq_true rfl) (fun w0 F0 A io0 => ?_)
    repeat' (first | refine wX ?_ | refine wE ?_ | refine wG ?_ | refine wR ?_ | refine wS ?_ ?_ <;> intro _ | exact wQ rfl)
end Go.Proofs.Ytjooknpgcjicbaa

/-
  Crossings, nestings, powers of terms; the step of a model. Conditions: as each says.
-/
set_option maxHeartbeats 8000000
namespace Go.Proofs.Ytjooknpgcjicbaa
open Go.Vw
attribute [local irreducible] awp awpL awpR

theorem tsEq {l m : List Nat} (h : l = m) : V.d (tsD l) = V.d (tsD m) := by rw [h]
def crF (a b : List Nat) (i j : Nat) : List Nat := crossR (a.getD i 0) (b.take j) ((a.take i).foldl (fun out s => crossR s b out) [])
theorem crF_len {a b : List Nat} (ha : a.length ≤ 100) (hb : b.length ≤ 100) (i j : Nat) : (crF a b i j).length ≤ 10100 := by
  unfold crF
  have h1 := crossF_le b (a.take i) []
  have h2 := (crossR_le (a.getD i 0) (b.take j) ((a.take i).foldl (fun out s => crossR s b out) [])).2
  rw [List.length_take] at h1 h2
  have := Nat.mul_le_mul (show min i a.length ≤ 100 by omega) hb
  simp only [List.length_nil] at h1
  omega
theorem crF_zero (a b : List Nat) (i : Nat) : crF a b i 0 = (a.take i).foldl (fun out s => crossR s b out) [] := rfl
theorem crF_step {a b : List Nat} {i j : Nat} (hj : j < b.length) : crF a b i (j + 1) = add1 (crF a b i j) (a.getD i 0 ||| b.getD j 0) := by
  unfold crF; rw [take_snoc 0 hj, crossR_snoc]
theorem crF_row {a b : List Nat} {i : Nat} (hi : i < a.length) : crF a b i b.length = crF a b (i + 1) 0 := by
  rw [crF_zero, take_snoc 0 hi, List.foldl_append]
  unfold crF
  rw [List.take_of_length_le (Nat.le_refl _)]; rfl
theorem crF_end (a b : List Nat) : crF a b a.length 0 = crossM a b := by rw [crF_zero, List.take_of_length_le (Nat.le_refl _)]; rfl
def unO (a b : List Nat) : Out := if fitsM (crossM a b) = true then .ret (.d (tsD (crossM a b))) [] else .pan limV
theorem unO_cov (a b : List Nat) : coverO [] (unO a b) = true := by unfold unO; split <;> rfl
theorem unO_ln (a b : List Nat) : LnO [] (unO a b) := by unfold unO; split <;> trivial
theorem terms_unionsO (a b : List Nat) (ha : a.length ≤ 100) (hb : b.length ≤ 100) (ba : BdM 64 a) (bb : BdM 64 b) : OutB Try.prog 92 [.d (tsD a), .d (tsD b)] [] (unO a b) := by
  have bc := ba.cross bb
  have cl := crossM_le a b
  have := Nat.mul_le_mul ha hb
  have ga := fun i => ba.getD i
  have gb := fun i => bb.getD i
  have crl := fun i j => crF_len ha hb i j
  have crs := fun i (j : Nat) (hj : j < b.length) => crF_step (a := a) (b := b) (i := i) hj
  have crr := fun (i : Nat) (hi : i < a.length) => crF_row (a := a) (b := b) hi
  have cr0 : crF a b 0 0 = [] := rfl
  have cre := crF_end a b
  generalize crF a b = C at *
  refine outB_of_awp tab [] Try.func92 rfl rfl rfl (Nat.le_of_ble_eq_true rfl) (unO_cov a b) (unO_ln a b) (fun w0 F0 A io0 => ?_)
  repeat' (first | refine wX ?_ | refine wE ?_ | refine wG ?_ | refine wR ?_ | refine wS ?_ ?_ <;> intro _ | exact wQ rfl | (refine wO ?_; refine wB ?_ ?_) | (refine wO ?_; refine wF ?_))
  refine awp_nils 5 1 (eN .u64) 0 rfl ?_
  refine awp_loop1 (fun (i : Nat) => ([(1, .d (tsD b)), (5, .d (tsD (C i 0))), (10, .d (tsD a)), (11, .d (.int .i64 a.length)), (12, .d (.int .i64 i))], [])) (fun i => i ≤ a.length) (fun i => a.length - i) 0 (by omega) ⟨rfl, tsEq (by rw [cr0]), rfl, rfl, rfl, rfl⟩ trivial (fun i hi => ?_)
  by_cases h3 : i < a.length
  · repeat' (first | refine wX ?_ | refine wE ?_ | refine wG ?_ | refine wR ?_ | refine wS ?_ ?_ <;> intro _ | exact wQ rfl | (refine wO ?_; refine wB ?_ ?_) | (refine wO ?_; refine wF ?_))
    refine awp_loop1 (fun (j : Nat) => ([(1, .d (tsD b)), (5, .d (tsD (C i j))), (7, .d (tD (a.getD i 0))), (10, .d (tsD a)), (11, .d (.int .i64 a.length)), (12, .d (.int .i64 i)), (16, .d (tsD b)), (17, .d (.int .i64 b.length)), (18, .d (.int .i64 j))], [])) (fun j => j ≤ b.length) (fun j => b.length - j) 0 (by omega) ⟨rfl, rfl, rfl, rfl, rfl, rfl, rfl, rfl, rfl, rfl⟩ trivial (fun j hj => ?_)
    have hl := crl i j
    by_cases h4 : j < b.length
    · have st := crs i j h4
      have w := terms_with (C i j) [a.getD i 0 ||| b.getD j 0] (by omega) (by simp)
      rw [plusM_one, ← st] at w
      have g1 := ga i
      have g2 := gb j
      clear crl crs crr ga gb bc ba bb
      repeat' (first | refine wX ?_ | refine wE ?_ | refine wG ?_ | refine wC w ?_ | refine wR ?_ | refine wS ?_ ?_ <;> intro _ | exact wQ rfl | (refine wO ?_; refine wB ?_ ?_) | (refine wO ?_; refine wF ?_))
      exact ⟨j + 1, by omega, by omega, ⟨rfl, rfl, rfl, rfl, rfl, rfl, rfl, rfl, iv (by omega), rfl⟩, trivial⟩
    · have e : j = b.length := by omega
      subst e
      have rr := crr i h3
      clear crl crs crr ga gb bc ba bb
      repeat' (first | refine wX ?_ | refine wE ?_ | refine wG ?_ | refine wR ?_ | refine wS ?_ ?_ <;> intro _ | exact wQ rfl | (refine wO ?_; refine wB ?_ ?_) | (refine wO ?_; refine wF ?_))
      exact ⟨i + 1, by omega, by omega, ⟨rfl, tsEq rr, rfl, rfl, iv (by omega), rfl⟩, trivial⟩
  · have e : i = a.length := by omega
    subst e
    rw [cre]
    clear crl crs crr ga gb ba bb cre cr0
    by_cases hf : fitsM (crossM a b) = true
    · have ck := terms_checked (crossM a b) (by omega) bc hf
      have eo : unO a b = .ret (.d (tsD (crossM a b))) [] := if_pos hf
      rw [eo]
      generalize crossM a b = m at *
      clear eo hf bc
      repeat' (first | refine wX ?_ | refine wE ?_ | refine wG ?_ | refine wC ck ?_ | refine wR ?_ | refine wS ?_ ?_ <;> intro _ | exact wQ rfl | (refine wO ?_; refine wB ?_ ?_) | (refine wO ?_; refine wF ?_))
      all_goals first | exact leVT | trivial
    · have ck := terms_checkedP (crossM a b) (by omega) bc (by simpa using hf)
      have eo : unO a b = .pan limV := if_neg hf
      rw [eo]
      generalize crossM a b = m at *
      clear eo hf bc
      repeat' (first | refine wX ?_ | refine wE ?_ | refine wG ?_ | refine wP ck ?_ | refine wR ?_ | refine wS ?_ ?_ <;> intro _ | exact wQ rfl | (refine wO ?_; refine wB ?_ ?_) | (refine wO ?_; refine wF ?_))
theorem terms_unions (a b : List Nat) (ha : a.length ≤ 100) (hb : b.length ≤ 100) (ba : BdM 64 a) (bb : BdM 64 b) (hf : fitsM (crossM a b) = true) : Ret Try.prog 92 [tsD a, tsD b] (· = tsD (crossM a b)) := by
  have h := terms_unionsO a b ha hb ba bb
  unfold unO at h
  rw [if_pos hf] at h
  exact RetB.toRet (ds := [tsD a, tsD b]) (y := .d (tsD (crossM a b))) h true rfl trivial
theorem terms_unionsP (a b : List Nat) (ha : a.length ≤ 100) (hb : b.length ≤ 100) (ba : BdM 64 a) (bb : BdM 64 b) (hf : ¬ fitsM (crossM a b) = true) : PanB Try.prog 92 [.d (tsD a), .d (tsD b)] (lookB []) limV := by
  have h := terms_unionsO a b ha hb ba bb
  unfold unO at h
  rw [if_neg hf] at h
  exact h
theorem starM_le {a b : List Nat} (ha : a.length ≤ 33) (hb : b.length ≤ 33) : (starM a b).length ≤ 1200 := by
  have h1 := (plusM_le a b).2
  have h2 := crossM_le a b
  have h3 := (plusM_le (plusM a b) (crossM a b)).2
  have := Nat.mul_le_mul ha hb
  unfold starM; omega
theorem terms_crossed (a b : List Nat) (ha : a.length ≤ 33) (hb : b.length ≤ 33) (ba : BdM 64 a) (bb : BdM 64 b) (hf : fitsM (starM a b) = true) : Ret Try.prog 93 [tsD a, tsD b] (· = tsD (starM a b)) := by
  have w1 := terms_with a b (by omega) (by omega)
  have u1 := terms_unions a b (by omega) (by omega) ba bb (fits_cross_of_star hf)
  have l1 := (plusM_le a b).2
  have l2 := crossM_le a b
  have := Nat.mul_le_mul ha hb
  have w2 := terms_with (plusM a b) (crossM a b) (by omega) (by omega)
  rw [show plusM (plusM a b) (crossM a b) = starM a b from rfl] at w2
  have sl := starM_le ha hb
  have ck := terms_checked (starM a b) (by omega) (ba.star bb) hf
  generalize starM a b = m at *
  generalize plusM a b = p at *
  generalize crossM a b = c at *
  clear ba bb hf
  refine ret_of_awp tab Try.func93 rfl rfl (Nat.le_of_ble_eq_true rfl) (fun w0 F0 => ?_)
  repeat' (first | refine wG ?_ | refine wC w1 ?_ | refine wC u1 ?_ | refine wC w2 ?_ | refine wC ck ?_ | refine wR ?_ | refine wS ?_ ?_ <;> intro _ | refine finG ?_)
  rfl
theorem terms_crossedP (a b : List Nat) (ha : a.length ≤ 33) (hb : b.length ≤ 33) (ba : BdM 64 a) (bb : BdM 64 b) (hf : ¬ fitsM (starM a b) = true) : PanB Try.prog 93 [.d (tsD a), .d (tsD b)] (lookB []) limV := by
  have w1 := terms_with a b (by omega) (by omega)
  have l1 := (plusM_le a b).2
  have l2 := crossM_le a b
  have := Nat.mul_le_mul ha hb
  have w2 := terms_with (plusM a b) (crossM a b) (by omega) (by omega)
  rw [show plusM (plusM a b) (crossM a b) = starM a b from rfl] at w2
  have sl := starM_le ha hb
  by_cases hc : fitsM (crossM a b) = true
  · have u1 := terms_unions a b (by omega) (by omega) ba bb hc
    have ck := terms_checkedP (starM a b) (by omega) (ba.star bb) (by simpa using hf)
    generalize starM a b = m at *
    generalize plusM a b = p at *
    generalize crossM a b = c at *
    clear ba bb hf hc
    refine panB_of_awp tab [] Try.func93 rfl rfl (Nat.le_of_ble_eq_true rfl) (fun w0 F0 A io0 => ?_)
    repeat' (first | refine wX ?_ | refine wE ?_ | refine wG ?_ | refine wP ck ?_ | refine wC w1 ?_ | refine wC u1 ?_ | refine wC w2 ?_ | refine wR ?_ | refine wS ?_ ?_ <;> intro _ | exact wQ rfl)
  · have u1 := terms_unionsP a b (by omega) (by omega) ba bb hc
    generalize starM a b = m at *
    generalize plusM a b = p at *
    clear ba bb hf hc
    refine panB_of_awp tab [] Try.func93 rfl rfl (Nat.le_of_ble_eq_true rfl) (fun w0 F0 A io0 => ?_)
    repeat' (first | refine wX ?_ | refine wE ?_ | refine wG ?_ | refine wP u1 ?_ | refine wC w1 ?_ | refine wR ?_ | refine wS ?_ ?_ <;> intro _ | exact wQ rfl)
theorem nested_or (a b : List Nat) (ba : BdM 64 a) (i : Nat) (hi : i < a.length) : orM (a.take (i + 1)) = orM (a.take i) ||| a.getD i 0 := by rw [take_snoc 0 hi, orM_snoc]
def neO (a b : List Nat) : Out := if fitsM (crossM [orM a] b) = true then .ret (.d (tsD (nestM a b))) [] else .pan limV
theorem terms_nestedO (a b : List Nat) (ha : a.length ≤ 33) (hb : b.length ≤ 33) (ba : BdM 64 a) (bb : BdM 64 b) : OutB Try.prog 94 [.d (tsD a), .d (tsD b)] [] (neO a b) := by
  have ga := fun i => ba.getD i
  have bo : BdM 64 [orM a] := fun t ht => by simp at ht; subst ht; exact ba.or
  have l2 := crossM_le [orM a] b
  have w2 := fun h => terms_with a (crossM [orM a] b) (by omega) h
  rw [show plusM a (crossM [orM a] b) = nestM a b from rfl] at w2
  have u1 := terms_unions [orM a] b (by simp) (by omega) bo bb
  have u2 := terms_unionsP [orM a] b (by simp) (by omega) bo bb
  obtain ⟨O, hO⟩ : ∃ O : Nat → Nat, ∀ i, O i = orM (a.take i) := ⟨fun i => orM (a.take i), fun _ => rfl⟩
  have o0 : O 0 = 0 := by rw [hO]; rfl
  have oS : ∀ i, i < a.length → O (i + 1) = O i ||| a.getD i 0 := fun i hi => by rw [hO, hO]; exact nested_or a b ba i hi
  have oB : ∀ i, O i < 2 ^ 64 := fun i => by rw [hO]; exact (ba.take i).or
  have oE : orM a = O a.length := by rw [hO, List.take_of_length_le (Nat.le_refl _)]
  unfold neO
  rw [oE] at u1 u2 w2 l2 ⊢
  clear hO
  rw [List.length_singleton] at l2
  refine outB_of_awp tab [] Try.func94 rfl rfl rfl (Nat.le_of_ble_eq_true rfl) (by split <;> rfl) (by split <;> trivial) (fun w0 F0 A io0 => ?_)
  repeat' (first | refine wX ?_ | refine wE ?_ | refine wG ?_ | refine wR ?_ | refine wS ?_ ?_ <;> intro _ | exact wQ rfl | (refine wO ?_; refine wB ?_ ?_) | (refine wO ?_; refine wF ?_))
  refine awp_loop1 (fun (i : Nat) => ([(0, .d (tsD a)), (1, .d (tsD b)), (5, .d (tD (O i))), (8, .d (tsD a)), (9, .d (.int .i64 a.length)), (10, .d (.int .i64 i))], [])) (fun i => i ≤ a.length) (fun i => a.length - i) 0 (by omega) ⟨rfl, rfl, iv (by rw [o0]; rfl), rfl, rfl, rfl, rfl⟩ trivial (fun i hi => ?_)
  by_cases h3 : i < a.length
  · have g1 := ga i
    have g2 := oB i
    have st := oS i h3
    clear u1 u2 w2 oS oB ga bo ba bb
    repeat' (first | refine wX ?_ | refine wE ?_ | refine wG ?_ | refine wR ?_ | refine wS ?_ ?_ <;> intro _ | exact wQ rfl | (refine wO ?_; refine wB ?_ ?_) | (refine wO ?_; refine wF ?_))
    exact ⟨i + 1, by omega, by omega, ⟨rfl, rfl, iv (by rw [st]; rfl), rfl, rfl, iv (by omega), rfl⟩, trivial⟩
  · have e : i = a.length := by omega
    subst e
    clear oS oB ga bo ba bb
    by_cases hf : fitsM (crossM [O a.length] b) = true
    · have u1 := u1 hf
      have w2 := w2 (by omega)
      rw [if_pos hf]
      generalize crossM [O a.length] b = m at *
      generalize O a.length = o at *
      clear u2
      repeat' (first | refine wX ?_ | refine wE ?_ | refine wG ?_ | refine wC u1 ?_ | refine wC w2 ?_ | refine wR ?_ | refine wS ?_ ?_ <;> intro _ | exact wQ rfl | (refine wO ?_; refine wB ?_ ?_) | (refine wO ?_; refine wF ?_))
      all_goals first | exact leVT | trivial
    · have v2 := u2 hf
      rw [if_neg hf]
      clear u1 u2 w2
      generalize crossM [O a.length] b = m at *
      generalize O a.length = o at *
      repeat' (first | refine wX ?_ | refine wE ?_ | refine wG ?_ | refine wP v2 ?_ | refine wR ?_ | refine wS ?_ ?_ <;> intro _ | exact wQ rfl | (refine wO ?_; refine wB ?_ ?_) | (refine wO ?_; refine wF ?_))
theorem terms_nested (a b : List Nat) (ha : a.length ≤ 33) (hb : b.length ≤ 33) (ba : BdM 64 a) (bb : BdM 64 b) (hf : fitsM (nestM a b) = true) : Ret Try.prog 94 [tsD a, tsD b] (· = tsD (nestM a b)) := by
  have h := terms_nestedO a b ha hb ba bb
  unfold neO at h
  rw [if_pos (fits_cross_of_nest hf)] at h
  exact RetB.toRet (ds := [tsD a, tsD b]) (y := .d (tsD (nestM a b))) h true rfl trivial
def rsO (a : List Nat) (k : Nat) : Out := if fitsM (powM a k) = true then .ret (.d (tsD (powM a k))) [] else .pan limV
theorem terms_raisedO (a : List Nat) (k : Nat) (hk : k ≤ 1000) (ba : BdM 64 a) (nd : a.Nodup) (fa : fitsM a = true) : OutB Try.prog 90 [.d (tsD a), .d (.int .i64 ((k : Int) + 1))] [] (rsO a k) := by
  have la := fitsM_len fa
  have bp := fun j => ba.pow j
  have fs := fun j => fits_pow_step nd (k := j)
  have f0 : fitsM (powM a 0) = true := fa
  have fl : ∀ j, ¬ fitsM (powM a j) = true → j ≤ k → ¬ fitsM (powM a k) = true := fun j h hj e => h (fits_pow_le nd (j := k - j) (by rw [show j + (k - j) = k by omega]; exact e))
  unfold rsO
  refine outB_of_awp tab [] Try.func90 rfl rfl rfl (Nat.le_of_ble_eq_true rfl) (by split <;> rfl) (by split <;> trivial) (fun w0 F0 A io0 => ?_)
  repeat' (first | refine wX ?_ | refine wE ?_ | refine wG ?_ | refine wR ?_ | refine wS ?_ ?_ <;> intro _ | exact wQ rfl | (refine wO ?_; refine wB ?_ ?_) | (refine wO ?_; refine wF ?_))
  refine awp_loop1 (fun (j : Nat) => ([(0, .d (tsD a)), (5, .d (tsD (powM a j))), (8, .d (.int .i64 k)), (9, .d (.int .i64 j))], [])) (fun j => j ≤ k ∧ fitsM (powM a j) = true) (fun j => k - j) 0 ⟨by omega, f0⟩ ⟨rfl, rfl, iv (by omega), rfl, rfl⟩ trivial (fun j hj => ?_)
  have lp := fitsM_len hj.2
  by_cases h3 : j < k
  · by_cases hf : fitsM (powM a (j + 1)) = true
    · have c := terms_crossed (powM a j) a (by omega) (by omega) (bp j) ba hf
      rw [show starM (powM a j) a = powM a (j + 1) from rfl] at c
      clear bp fs f0 fl ba
      obtain ⟨hj1, hj2⟩ := hj
      generalize hp : powM a (j + 1) = q at *
      generalize powM a j = p at *
      repeat' (first | refine wX ?_ | refine wE ?_ | refine wG ?_ | refine wC c ?_ | refine wR ?_ | refine wS ?_ ?_ <;> intro _ | exact wQ rfl | (refine wO ?_; refine wB ?_ ?_) | (refine wO ?_; refine wF ?_))
      exact ⟨j + 1, ⟨by omega, by rw [hp]; exact hf⟩, by omega, ⟨rfl, tsEq hp.symm, rfl, iv (by omega), rfl⟩, trivial⟩
    · have c := terms_crossedP (powM a j) a (by omega) (by omega) (bp j) ba hf
      rw [if_neg (fl (j + 1) hf (by omega))]
      clear bp fs f0 fl ba
      generalize powM a j = p at *
      repeat' (first | refine wX ?_ | refine wE ?_ | refine wG ?_ | refine wP c ?_ | refine wR ?_ | refine wS ?_ ?_ <;> intro _ | exact wQ rfl | (refine wO ?_; refine wB ?_ ?_) | (refine wO ?_; refine wF ?_))
  · have e : j = k := by omega
    subst e
    rw [if_pos hj.2]
    clear bp fs f0 fl ba
    generalize powM a j = p at *
    repeat' (first | refine wX ?_ | refine wE ?_ | refine wG ?_ | refine wR ?_ | refine wS ?_ ?_ <;> intro _ | exact wQ rfl | (refine wO ?_; refine wB ?_ ?_) | (refine wO ?_; refine wF ?_))
    all_goals first | exact leVT | trivial
end Go.Proofs.Ytjooknpgcjicbaa

/-
  What is left of a list of terms without others. Conditions: as each says.
-/
set_option maxHeartbeats 8000000
namespace Go.Proofs.Ytjooknpgcjicbaa
open Go.Vw
attribute [local irreducible] awp awpL awpR

theorem without_one (b : List Nat) (t : Nat) (hb : b.length ≤ 1000000) : Ret Try.prog 64 [tD t, .ptr [tsD b] 0] (· = .bool (decide (t ∈ b))) := by
  have c := slices_ContainsT b t hb
  generalize decide (t ∈ b) = r at *
  refine ret_of_awp tab Try.func64 rfl rfl (Nat.le_of_ble_eq_true rfl) (fun w0 F0 => ?_)
  repeat' (first | refine wG ?_ | refine wC c ?_ | refine wR ?_ | refine wS ?_ ?_ <;> intro _ | refine finG ?_)
  rfl
theorem without_idx (l b : List Nat) (hl : l.length ≤ 1000000) (hb : b.length ≤ 1000000) (j : Nat) (hj : j < l.length) (h1 : l.getD j 0 ∈ b) (h2 : ∀ i, i < j → l.getD i 0 ∉ b) : Ret Try.prog 96 [tsD l, .fn 64 [.ptr [tsD b] 0]] (· = .int .i64 j) := by
  have hf := fun i => without_one b (l.getD i 0) hb
  refine ret_of_awp tab Try.func96 rfl rfl (Nat.le_of_ble_eq_true rfl) (fun w0 F0 => ?_)
  repeat' (first | refine wG ?_ | refine wR ?_ | refine wS ?_ ?_ <;> intro _ | refine finG ?_)
  refine awp_loop1 (fun (i : Nat) => ([(0, .d (tsD l)), (1, .d (.fn 64 [.ptr [tsD b] 0])), (7, .d (.int .i64 l.length)), (8, .d (.int .i64 i))], [])) (fun i => i ≤ j) (fun i => l.length - i) 0 (by omega) ⟨rfl, rfl, rfl, rfl, rfl⟩ trivial (fun i hi => ?_)
  have c := hf i
  by_cases h3 : i < j
  · rw [decide_eq_false (h2 i h3)] at c
    clear h1 h2 hf
    repeat' (first | refine wG ?_ | refine wC c ?_ | refine wR ?_ | refine wS ?_ ?_ <;> intro _ | refine finG ?_)
    exact ⟨i + 1, by omega, by omega, ⟨rfl, rfl, rfl, iv (by omega), rfl⟩, trivial⟩
  · have e : i = j := by omega
    subst e
    rw [decide_eq_true h1] at c
    clear h1 h2 hf
    repeat' (first | refine wG ?_ | refine wC c ?_ | refine wR ?_ | refine wS ?_ ?_ <;> intro _ | refine finG ?_)
    rfl
theorem without_idxN (l b : List Nat) (hl : l.length ≤ 1000000) (hb : b.length ≤ 1000000) (h2 : ∀ i, i < l.length → l.getD i 0 ∉ b) : Ret Try.prog 96 [tsD l, .fn 64 [.ptr [tsD b] 0]] (· = .int .i64 (-1)) := by
  have hf := fun i => without_one b (l.getD i 0) hb
  refine ret_of_awp tab Try.func96 rfl rfl (Nat.le_of_ble_eq_true rfl) (fun w0 F0 => ?_)
  repeat' (first | refine wG ?_ | refine wR ?_ | refine wS ?_ ?_ <;> intro _ | refine finG ?_)
  refine awp_loop1 (fun (i : Nat) => ([(0, .d (tsD l)), (1, .d (.fn 64 [.ptr [tsD b] 0])), (7, .d (.int .i64 l.length)), (8, .d (.int .i64 i))], [])) (fun i => i ≤ l.length) (fun i => l.length - i) 0 (by omega) ⟨rfl, rfl, rfl, rfl, rfl⟩ trivial (fun i hi => ?_)
  have c := hf i
  by_cases h3 : i < l.length
  · rw [decide_eq_false (h2 i h3)] at c
    clear h2 hf
    repeat' (first | refine wG ?_ | refine wC c ?_ | refine wR ?_ | refine wS ?_ ?_ <;> intro _ | refine finG ?_)
    exact ⟨i + 1, by omega, by omega, ⟨rfl, rfl, rfl, iv (by omega), rfl⟩, trivial⟩
  · have e : i = l.length := by omega
    subst e
    clear h2 hf
    repeat' (first | refine wG ?_ | refine wR ?_ | refine wS ?_ ?_ <;> intro _ | refine finG ?_)
    rfl
theorem minusM_snoc (a b : List Nat) (t : Nat) : minusM (a ++ [t]) b = minusM a b ++ if t ∈ b then [] else [t] := by
  unfold minusM
  rw [List.filter_append]
  congr 1
  by_cases h : t ∈ b
  · rw [if_pos h]; simp [h]
  · rw [if_neg h]; simp [h]
theorem minusM_le (a b : List Nat) : (minusM a b).length ≤ a.length := List.length_filter_le _ _
abbrev dB (L b : List Nat) : List (Nat × Blk) := [(5, tB L), (600, .box 58 [.d (tsD b)])]
theorem slices_DeleteT (l b : List Nat) (hl : l.length ≤ 1000000) (hb : b.length ≤ 1000000) : ∃ L, L.length = l.length ∧ L.take (minusM l b).length = minusM l b ∧ (∀ t ∈ L, t ∈ l ∨ t = 0) ∧ RetB Try.prog 62 [tO l.length, .fn 64 [.ptr 600 0]] (lookB (dB l b)) (tO (minusM l b).length) (lookB (dB L b)) := by
  by_cases hm : ∃ t ∈ l, t ∈ b
  · obtain ⟨j, hj, h1, h2⟩ : ∃ j, j < l.length ∧ l.getD j 0 ∈ b ∧ ∀ i, i < j → l.getD i 0 ∉ b := by
      clear hl
      induction l with
      | nil => obtain ⟨t, h, _⟩ := hm; cases h
      | cons a l ih =>
        by_cases e : a ∈ b
        · exact ⟨0, by simp, e, fun i hi => by omega⟩
        · obtain ⟨j, a1, a2, a3⟩ := ih (by
            obtain ⟨t, h, q⟩ := hm
            rcases List.mem_cons.1 h with r | r
            · subst r; exact absurd q e
            · exact ⟨t, r, q⟩)
          exact ⟨j + 1, by simp; omega, a2, fun i hi => by cases i with | zero => exact e | succ i => exact a3 i (by omega)⟩
    have ix := without_idx l b hl hb j hj h1 h2
    have hme := minusM_le l b
    have m0 : minusM (l.take (j + 1)) b = l.take j := by
      rw [take_snoc 0 hj, minusM_snoc, if_pos h1, List.append_nil]
      unfold minusM
      rw [List.filter_eq_self]
      intro t ht
      obtain ⟨i, hi, e⟩ := List.getElem_of_mem ht
      have hi' : i < j ∧ i < l.length := by rw [List.length_take] at hi; omega
      have := h2 i hi'.1
      rw [List.getD_eq_getElem?_getD, List.getElem?_eq_getElem hi'.2] at this
      rw [List.getElem_take] at e
      rw [← e]
      exact decide_eq_true this
    refine ⟨minusM l b ++ List.replicate (l.length - (minusM l b).length) 0, by rw [List.length_append, List.length_replicate]; omega, List.take_left' rfl, fun t ht => ?_, ?_⟩
    · rcases List.mem_append.1 ht with q | q
      · exact .inl (mem_minusM.1 q).1
      · exact .inr (List.eq_of_mem_replicate q)
    refine retB_of_awp tab [5, 600] Try.func62 rfl rfl rfl (Nat.le_of_ble_eq_true rfl) rfl ⟨by show l.length ≤ (minusM l b ++ List.replicate (l.length - (minusM l b).length) 0).length; rw [List.length_append, List.length_replicate]; omega, Nat.le_refl _, trivial⟩ (fun w0 F0 A io0 => ?_)
    repeat' (first | refine wG ?_ | refine wC ix ?_ | refine wR ?_ | refine wS ?_ ?_ <;> intro _ | refine wB ?_ ?_ | refine wF ?_)
    refine awp_loop3 (fun (L : List Nat) (m k : Nat) => ([(0, tO l.length), (1, .fn 64 [.ptr 600 0]), (5, .d (.int .i64 m)), (6, .d (.int .i64 k))], dB L b)) (fun L m k => L.length = l.length ∧ L.take m = minusM (l.take k) b ∧ m = (minusM (l.take k) b).length ∧ m < k ∧ k ≤ l.length ∧ ∀ q, k ≤ q → L.getD q 0 = l.getD q 0) (fun L m k => l.length - k) l j (j + 1) ⟨rfl, m0.symm, by rw [m0, List.length_take]; omega, by omega, by omega, fun _ _ => rfl⟩ ⟨rfl, rfl, rfl, iv (by omega), rfl⟩ ⟨rfl, rfl, trivial⟩ (fun L m k hI => ?_)
    obtain ⟨i1, i2, i3, i4, i5, i6⟩ := hI
    clear ix m0 h1 h2
    by_cases h3 : k < l.length
    · have st := minusM_snoc (l.take k) b (l.getD k 0)
      rw [← take_snoc 0 h3] at st
      have c := without_one b (L.getD k 0) hb
      have e6 := i6 k (Nat.le_refl _)
      by_cases h4 : l.getD k 0 ∈ b
      · rw [if_pos h4, List.append_nil] at st
        rw [decide_eq_true (show L.getD k 0 ∈ b by rw [e6]; exact h4)] at c
        rw [← st] at i2 i3
        clear st h4 e6
        repeat' (first | refine wG ?_ | refine wC c ?_ | refine wR ?_ | refine wS ?_ ?_ <;> intro _ | refine wB ?_ ?_ | refine wF ?_)
        exact ⟨L, m, k + 1, ⟨i1, i2, i3, by omega, by omega, fun q hq => i6 q (by omega)⟩, by omega, ⟨rfl, rfl, rfl, iv (by omega), rfl⟩, rfl, rfl, trivial⟩
      · rw [if_neg h4] at st
        rw [decide_eq_false (show L.getD k 0 ∉ b by rw [e6]; exact h4)] at c
        obtain ⟨L2, hL2⟩ : ∃ L2, L.set m (L.getD k 0) = L2 := ⟨_, rfl⟩
        have l2 : L2.length = l.length := by rw [← hL2, List.length_set]; exact i1
        have j6' : L2.take (m + 1) = minusM (l.take (k + 1)) b := by
          rw [st, ← i2, ← hL2, List.take_add_one, List.getElem?_set, if_pos rfl, if_pos (by omega), List.take_set_of_le (Nat.le_refl m), e6]
          rfl
        have j7' : ∀ q, k + 1 ≤ q → L2.getD q 0 = l.getD q 0 := fun q hq => by
          rw [← hL2, List.getD_eq_getElem?_getD, List.getElem?_set, if_neg (by omega), ← List.getD_eq_getElem?_getD]
          exact i6 q (by omega)
        have j8 : m + 1 = (minusM (l.take (k + 1)) b).length := by rw [st, List.length_append, ← i3]; rfl
        clear st h4 e6 i2 i6 hm
        repeat' (first | refine wG ?_ | refine wC c ?_ | refine wR ?_ | refine wS ?_ ?_ <;> intro _ | refine wB ?_ ?_ | refine wF ?_)
        exact ⟨L2, m + 1, k + 1, ⟨l2, j6', j8, by omega, by omega, j7'⟩, by omega, ⟨rfl, rfl, iv (by omega), iv (by omega), rfl⟩, tBEq hL2, rfl, trivial⟩
    · have ee : k = l.length := by omega
      subst ee
      rw [List.take_of_length_le (Nat.le_refl _)] at i2 i3
      have hcop : copyL L m (l.length - m) (List.replicate (l.length - m) 0) = minusM l b ++ List.replicate (l.length - (minusM l b).length) 0 := by
        unfold copyL
        rw [i2, List.take_of_length_le (by rw [List.length_replicate]; omega), List.length_replicate, Nat.min_self, List.drop_eq_nil_of_le (by omega), List.append_nil, i3]
      rw [← i3] at hcop ⊢
      clear i2 i3 i6 hm
      repeat' (first | refine stopA 11 tt ?_ | refine wG ?_ | refine wR ?_ | refine wS ?_ ?_ <;> intro _ | refine wB ?_ ?_ | refine wF ?_)
      refine stopOut ?_
      refine awp_seq ?_
      refine awp_region ?_
      refine goL ?_
      refine goL ?_
      refine goL ?_
      refine stepClear (en := eN .u64) (z := 0) rfl rfl rfl rfl rfl rfl rfl rfl rfl rfl rfl leL (by show m + (l.length - m) ≤ L.length; omega) ?_
      repeat' (first | refine wG ?_ | refine wR ?_ | refine wS ?_ ?_ <;> intro _ | refine wB ?_ ?_ | refine wF ?_)
      all_goals first | exact leVT | exact ⟨blkEq hcop, rfl, trivial⟩
  · have e : minusM l b = l := by
      unfold minusM
      rw [List.filter_eq_self]
      exact fun t ht => decide_eq_true fun h => hm ⟨t, ht, h⟩
    have ix := without_idxN l b hl hb (fun i hi h => hm ⟨_, by rw [List.getD_eq_getElem?_getD, List.getElem?_eq_getElem hi]; exact List.getElem_mem hi, h⟩)
    rw [e]
    refine ⟨l, rfl, List.take_of_length_le (Nat.le_refl _), fun t ht => .inl ht, ?_⟩
    clear hm e
    refine retB_of_awp tab [5, 600] Try.func62 rfl rfl rfl (Nat.le_of_ble_eq_true rfl) rfl ⟨Nat.le_refl _, Nat.le_refl _, trivial⟩ (fun w0 F0 A io0 => ?_)
    repeat' (first | refine wG ?_ | refine wC ix ?_ | refine wR ?_ | refine wS ?_ ?_ <;> intro _ | refine wB ?_ ?_ | refine wF ?_)
    all_goals first | exact leVT | exact ⟨rfl, rfl, trivial⟩
end Go.Proofs.Ytjooknpgcjicbaa

/-
  The grammar of formulas, on a text's bytes: words, places, and what is read from a place on. Conditions: none.
-/
namespace Go.Vw

def isLet (c : UInt8) : Bool := (97 ≤ c && c ≤ 122) || (65 ≤ c && c ≤ 90)
def isDig (c : UInt8) : Bool := 48 ≤ c && c ≤ 57
def isInn (c : UInt8) : Bool := isLet c || isDig c || c == 95 || c == 46
def runE (p : UInt8 → Bool) (t : List UInt8) (i : Nat) : Nat := i + ((t.drop i).takeWhile p).length
def isBl (c : UInt8) : Bool := c == 32
abbrev skp (t : List UInt8) (i : Nat) : Nat := runE isBl t i
def wend (t : List UInt8) (i : Nat) : Nat := if i < t.length then (if isLet (t.getD i 0) then runE isInn t i else if isDig (t.getD i 0) then runE isDig t i else i + 1) else t.length
def word (t : List UInt8) (i : Nat) : List UInt8 := (t.drop i).take (wend t i - i)
def nxt (t : List UInt8) (i : Nat) : Nat := skp t (wend t i)

theorem runE_ge (p : UInt8 → Bool) (t : List UInt8) (i : Nat) : i ≤ runE p t i := Nat.le_add_right _ _
theorem takeWhile_len {p : UInt8 → Bool} : ∀ l : List UInt8, (l.takeWhile p).length ≤ l.length
  | [] => Nat.le_refl _
  | x :: xs => by
    simp only [List.takeWhile]
    split
    · have := takeWhile_len (p := p) xs; simp; omega
    · simp
theorem runE_le (p : UInt8 → Bool) {t : List UInt8} {i : Nat} (h : i ≤ t.length) : runE p t i ≤ t.length := by
  have := takeWhile_len (p := p) (t.drop i)
  unfold runE; simp at this; omega
theorem runE_stop (p : UInt8 → Bool) {t : List UInt8} {i : Nat} (h : runE p t i < t.length) : p (t.getD (runE p t i) 0) = false := by
  have key : ∀ l : List UInt8, (l.takeWhile p).length < l.length → p (l.getD (l.takeWhile p).length 0) = false := by
    intro l
    induction l with
    | nil => intro h; simp at h
    | cons x xs ih =>
      simp only [List.takeWhile]
      cases hp : p x with
      | true => intro h; simp only [List.length_cons] at h ⊢; simpa using ih (by omega)
      | false => intro _; simpa using hp
  have := key (t.drop i) (by unfold runE at h; simp; omega)
  unfold runE
  simpa [List.getD_eq_getElem?_getD, List.getElem?_drop] using this
theorem runE_in (p : UInt8 → Bool) {t : List UInt8} {i j : Nat} (h1 : i ≤ j) (h2 : j < runE p t i) : p (t.getD j 0) = true := by
  have key : ∀ (l : List UInt8) j, j < (l.takeWhile p).length → p (l.getD j 0) = true := by
    intro l
    induction l with
    | nil => intro j h; simp at h
    | cons x xs ih =>
      intro j
      simp only [List.takeWhile]
      cases hp : p x with
      | true =>
        intro h
        cases j with
        | zero => simpa using hp
        | succ j => simpa using ih j (by simpa using h)
      | false => intro h; simp at h
  have := key (t.drop i) (j - i) (by unfold runE at h2; omega)
  simpa [List.getD_eq_getElem?_getD, List.getElem?_drop, show i + (j - i) = j by omega] using this
theorem runE_eq {p : UInt8 → Bool} {t : List UInt8} {i j : Nat} (h1 : i ≤ j) (h2 : j ≤ t.length) (h3 : ∀ k, i ≤ k → k < j → p (t.getD k 0) = true) (h4 : j < t.length → p (t.getD j 0) = false) : runE p t i = j := by
  have a := runE_ge p t i
  rcases Nat.lt_trichotomy (runE p t i) j with h | h | h
  · have := runE_stop p (t := t) (i := i) (by omega)
    rw [h3 _ a h] at this; cases this
  · exact h
  · have b := runE_in p (t := t) (i := i) h1 h
    have c := runE_le p (t := t) (i := i) (by omega)
    rw [h4 (by omega)] at b; cases b
theorem runE_step {p : UInt8 → Bool} {t : List UInt8} {i : Nat} (h : i < t.length) (hp : p (t.getD i 0) = true) : runE p t (i + 1) = runE p t i := by
  refine (runE_eq (Nat.le_of_lt_succ ?_) (runE_le p (by omega)) (fun k h1 h2 => ?_) (fun h1 => runE_stop p h1)).symm
  · exact Nat.lt_succ_of_le (Nat.le_trans (Nat.le_succ _) (runE_ge p t (i + 1)))
  · by_cases e : k = i
    · subst e; exact hp
    · exact runE_in p (by omega) h2
theorem runE_self {p : UInt8 → Bool} {t : List UInt8} {i : Nat} (h : i ≤ t.length) (hp : i < t.length → p (t.getD i 0) = false) : runE p t i = i := runE_eq (Nat.le_refl _) h (fun k _ _ => by omega) hp
theorem runE_idem {p : UInt8 → Bool} {t : List UInt8} {i : Nat} (h : i ≤ t.length) : runE p t (runE p t i) = runE p t i := runE_self (runE_le p h) (fun h => runE_stop p h)
theorem isLet_inn {c : UInt8} (h : isLet c = true) : isInn c = true := by unfold isInn; simp [h]
theorem wend_gt {t : List UInt8} {i : Nat} (h : i < t.length) : i < wend t i := by
  unfold wend
  rw [if_pos h]
  split
  · rename_i hl
    have := runE_ge isInn t (i + 1)
    rw [runE_step h (isLet_inn hl)] at this; omega
  · split
    · rename_i hd
      have := runE_ge isDig t (i + 1)
      rw [runE_step h hd] at this; omega
    · omega
theorem wend_le (t : List UInt8) (i : Nat) : wend t i ≤ t.length := by
  unfold wend
  split
  · split
    · exact runE_le _ (by omega)
    · split
      · exact runE_le _ (by omega)
      · omega
  · omega
theorem nxt_le (t : List UInt8) (i : Nat) : nxt t i ≤ t.length := runE_le _ (wend_le t i)
theorem nxt_gt {t : List UInt8} {i : Nat} (h : i < t.length) : i < nxt t i := Nat.lt_of_lt_of_le (wend_gt h) (runE_ge _ _ _)
theorem nxt_ge {t : List UInt8} {i : Nat} (h : i ≤ t.length) : i ≤ nxt t i := by
  by_cases e : i < t.length
  · exact Nat.le_of_lt (nxt_gt e)
  · have : wend t i = t.length := by unfold wend; rw [if_neg e]
    unfold nxt; rw [this]; have := runE_ge isBl t t.length; unfold skp; omega
theorem skp_nxt (t : List UInt8) (i : Nat) : skp t (nxt t i) = nxt t i := runE_idem (wend_le t i)

end Go.Vw
