/-
  Contracts of functions of the program, and the layer that they are walked with: PolZ PolW VUc. Conditions: as each says.
-/
import Derived.Test.YtlphlodailailaaGreatA09
/-
  How close two roots can be, out of sizes. Conditions: as each says.
-/
set_option linter.unusedVariables false
set_option linter.unusedSimpArgs false
namespace Go.Vw

theorem ht_gt {h : Nat} {p : List Rat} (H : HtP h p) : 1 < h := by
  obtain ⟨c, P, c0, hc, hp⟩ := H
  have h0 : ln c.natAbs ≠ 0 := fun e => by
    unfold ln at e
    have h1 := lt_pow_length c.natAbs
    rw [e, Nat.pow_zero] at h1
    omega
  omega
def farT : Nat → Nat
  | 0 => 4
  | 1 => 4
  | 2 => 13
  | n => n + 13
theorem farT_le {m n : Nat} (h : m ≤ n) : farT m ≤ farT n := by
  match m, n with
  | 0, 0 => decide
  | 0, 1 => decide
  | 0, 2 => decide
  | 0, n + 3 => show 4 ≤ n + 3 + 13; omega
  | 1, 1 => decide
  | 1, 2 => decide
  | 1, n + 3 => show 4 ≤ n + 3 + 13; omega
  | 2, 2 => decide
  | 2, n + 3 => show 13 ≤ n + 3 + 13; omega
  | m + 3, n + 3 => show m + 3 + 13 ≤ n + 3 + 13; omega
  | m + 1, 0 => omega
  | m + 2, 1 => omega
  | m + 3, 2 => omega
theorem farT_step {n : Nat} (h : 1 ≤ n) : farT n * 3 ^ (n + 1) + 81 ≤ farT (n + 1) * 3 ^ (n + 1) := by
  match n with
  | 1 => decide
  | 2 => decide
  | n + 3 =>
    show (n + 3 + 13) * 3 ^ (n + 3 + 1) + 81 ≤ (n + 4 + 13) * 3 ^ (n + 3 + 1)
    have : 81 ≤ 3 ^ (n + 3 + 1) := by
      have := Nat.pow_le_pow_right (show 0 < 3 by decide) (show 4 ≤ n + 3 + 1 by omega)
      simpa using this
    have e : (n + 4 + 13) * 3 ^ (n + 3 + 1) = (n + 3 + 13) * 3 ^ (n + 3 + 1) + 3 ^ (n + 3 + 1) := by
      rw [show n + 4 + 13 = (n + 3 + 13) + 1 by omega, Nat.add_mul, Nat.one_mul]
    omega
structure ChX (ch : List Rat → List Rat) : Prop where
  ok : ChOk ch
  ev : ∀ p, Tr p → p ≠ [] → ∀ x, evalP p x = ab (lead p) * evalP (ch p) x
theorem far_js {ch : List Rat → List Rat} (hs : ChS ch) (hc : ChX ch) {G : Nat} : ∀ (n : Nat) {a b : List Rat} {M : Nat}, Tr a → Tr b → a ≠ [] → b ≠ [] → b.length < a.length → HtP M a → HtP M b → (M + 1) * 3 ^ a.length ≤ G → Bez a b → b.length ≤ n → FarB (farT b.length * G) a b
  | 0, a, b, M, ta, tb, a0, b0, hl, ha, hb, bud, hz, hn => absurd (List.length_eq_zero_iff.1 (Nat.le_zero.1 hn)) b0
  | n + 1, a, b, M, ta, tb, a0, b0, hl, ha, hb, bud, hz, hn => by
    obtain ⟨hz2, _, _, _⟩ := bez_next hs ta tb b0 hz
    have lb := ne_len b0
    obtain ⟨e, he⟩ : ∃ e, a.length = b.length + e := ⟨a.length - b.length, by omega⟩
    have e1 : 1 ≤ e := by omega
    have p3 := pow3_ge e e1
    have pw : 3 ^ a.length = 3 ^ b.length * 3 ^ e := by rw [he, Nat.pow_add]
    have hr := remP_ht ta tb b0 ha hb
    have hq := divP_ht ta tb b0 ha hb
    have lq : (divP a b).1.length ≤ a.length + 1 - b.length := (divP_q ta tb b0 ha hb (ht_gt ha)).2
    have tr := tr_rem ta tb b0
    have lr := rem_len ta tb b0
    have M1 := ht_gt ha
    rw [show a.length + 1 - b.length = e + 1 by omega] at hr hq lq
    by_cases r0 : remP a b = []
    · have c0 : ch (negC (remP a b)) = [] := List.length_eq_zero_iff.1 (by rw [hc.ok.len, r0]; rfl)
      rw [c0] at hz2
      obtain ⟨v, v0, rfl⟩ := bez_const tb hz2
      intro x hx
      right
      have ov : okQ M v := hb.ok 0
      have h1 := ok_low ov v0
      rw [show evalP [v] x = v by simp only [evalP]; grind]
      refine Rat.le_trans (hw_mono ?_) h1
      show 32 * M ≤ 4 * G
      have h9 : 3 ^ 2 ≤ 3 ^ a.length := Nat.pow_le_pow_right (by decide) (by omega)
      have := Nat.mul_le_mul_left (M + 1) h9
      omega
    · have tn := tr_neg tr
      have n0 : negC (remP a b) ≠ [] := fun e => r0 (by unfold negC at e; exact smul_eq_nil.1 e)
      have nl : (negC (remP a b)).length = (remP a b).length := len_smul _ _
      have kl := hc.ev _ tn n0
      have cl : (ch (negC (remP a b))).length = (remP a b).length := by rw [hc.ok.len, nl]
      have c0 : ch (negC (remP a b)) ≠ [] := fun e => r0 (List.length_eq_zero_iff.1 (by rw [← cl, e]; rfl))
      have hcM := hc.ok.ht _ _ tn hr.neg
      obtain ⟨M', hM'⟩ : ∃ M', M + (e + 1) * M + 1 = M' := ⟨_, rfl⟩
      rw [hM'] at hcM
      have em : (e + 1) * M = e * M + M := by rw [Nat.add_mul, Nat.one_mul]
      have k1 : M' + 1 ≤ (M + 1) * 3 ^ e := by
        have := Nat.mul_le_mul_left (M + 1) p3
        have e5 : (M + 1) * (e + 2) = e * M + 2 * M + (e + 2) := by rw [Nat.add_mul, Nat.mul_add, Nat.mul_comm M e]; omega
        omega
      have k2 : (M' + 1) * 3 ^ b.length ≤ G := by
        refine Nat.le_trans (Nat.mul_le_mul_right _ k1) ?_
        rw [Nat.mul_assoc, Nat.mul_comm (3 ^ e), ← pw]; exact bud
      have ih := far_js hs hc n tb (hc.ok.tr _ tn) b0 c0 (by rw [cl]; exact lr) (hb.mono (by omega)) hcM k2 hz2 (by rw [cl]; omega)
      have lead0 : lead (negC (remP a b)) ≠ 0 := lead_ne tn n0
      have hk := ok_low (show okQ (M + (e + 1) * M) (lead (negC (remP a b))) from hr.neg.ok _) lead0
      have step := FarB.step (a := a) (q := (divP a b).1) (k := ab (lead (negC (remP a b)))) ih (fun x => by
        have hs := eval_ext x (divP_spec ta tb b0).2.2.2
        rw [eval_add, eval_mul] at hs
        have h2 := kl x
        rw [← h2]
        unfold negC
        rw [eval_smul, show remP a b = (divP a b).2 from rfl]
        grind) hk (fun i => hq.ok i) (m := 32 * (M + (e + 1) * M + M) + 6 * (e + 1) + 1) (by omega)
      refine step.mono ?_
      rw [cl]
      obtain ⟨j, hj⟩ : ∃ j, b.length = j + 1 := ⟨b.length - 1, by omega⟩
      have lr1 := ne_len r0
      have t1 := farT_le (show (remP a b).length ≤ j by omega)
      have t2 := farT_step (show 1 ≤ j by omega)
      rw [hj]
      have g1 := Nat.mul_le_mul_right G t1
      -- the room that one step leaves
      have room : farT j * G + 81 * ((M + 1) * 3 ^ e) ≤ farT (j + 1) * G := by
        obtain ⟨d, hd⟩ : ∃ d, farT (j + 1) = farT j + d := ⟨farT (j + 1) - farT j, by have := farT_le (show j ≤ j + 1 by omega); omega⟩
        have e9 : (farT j + d) * G = farT j * G + d * G := Nat.add_mul ..
        rw [hd, e9]
        rw [hd, Nat.add_mul] at t2
        have h3 : 81 ≤ d * 3 ^ (j + 1) := by omega
        have h4 : (M + 1) * 3 ^ e * 3 ^ (j + 1) ≤ G := by
          rw [Nat.mul_assoc, Nat.mul_comm (3 ^ e), ← hj, ← pw]; exact bud
        have h5 := Nat.mul_le_mul_left ((M + 1) * 3 ^ e) h3
        have h6 := Nat.mul_le_mul_left d h4
        have h7 : (M + 1) * 3 ^ e * (d * 3 ^ (j + 1)) = d * ((M + 1) * 3 ^ e * 3 ^ (j + 1)) := by
          rw [Nat.mul_left_comm]
        omega
      have h8 := Nat.mul_le_mul_left (M + 1) p3
      have e5 : (M + 1) * (e + 2) = e * M + 2 * M + (e + 2) := by rw [Nat.add_mul, Nat.mul_add, Nat.mul_comm M e]; omega
      omega
theorem depth {ch : List Rat → List Rat} (hs : ChS ch) (hc : ChX ch) {Q : List Rat} (tQ : Tr Q) (hb : Bez Q (derP Q)) {H : Nat} (hQ : HtP H Q) (hE : HtP (H + 1) (derP Q)) (lQ : Q.length ≤ 6) (hB : (H + 3) * 3 ^ Q.length ≤ 120000) {n : Nat} (hn : Q.length < n) {lo hi : Rat} (l32 : -32 ≤ lo) (h32 : hi ≤ 32) (hlt : lo < hi) (hd : hi - lo ≤ hw 1 2600000) : vrs ((chainL ch n Q (derP Q)).map evalP) lo - vrs ((chainL ch n Q (derP Q)).map evalP) hi ≤ 1 := by
  have Q0 : Q ≠ [] := fun e => by
    obtain ⟨u, v, h⟩ := hb
    have := h 0
    rw [e] at this
    have e0 : evalP [] 0 = 0 := rfl
    have e1 : evalP (derP []) 0 = 0 := rfl
    rw [e0, e1, Rat.mul_zero, Rat.mul_zero] at this
    exact absurd this (by decide +kernel)
  have tE : Tr (derP Q) := tr_trim _
  have lt : (derP Q).length < Q.length := by
    have := derP_lt (p := Q) (by rw [trim_of tQ]; exact Q0)
    rwa [trim_of tQ] at this
  by_cases E0 : derP Q = []
  · obtain ⟨m, rfl⟩ : ∃ m, n = m + 1 := ⟨n - 1, by omega⟩
    rw [chain_cons ch Q0, if_pos E0]
    have hz : ∀ z, vrs (List.map evalP [Q]) z = 0 := fun z => by simp [vrs, sgs, chg]
    rw [hz, hz]; decide
  · have lE := ne_len E0
    have f := far_js hs hc (G := 120000) _ tQ tE Q0 E0 lt (hQ.mono (Nat.le_succ H)) hE (Nat.le_trans (Nat.mul_le_mul_right _ (by omega)) hB) hb (Nat.le_refl _)
    have ft := farT_le (show (derP Q).length ≤ 5 by omega)
    have f5 : farT 5 = 18 := rfl
    rw [f5] at ft
    have f2 := f.mono (Nat.mul_le_mul_right 120000 ft)
    have p9 : 3 ^ 2 ≤ 3 ^ Q.length := Nat.pow_le_pow_right (by decide) (by omega)
    have h9 := Nat.mul_le_mul_left (H + 3) p9
    refine one_root hs tQ hb hn f2 (H := H + 1) (fun i => (hQ.mono (Nat.le_succ H)).ok i) (fun i => hE.ok i) (Nat.le_of_lt lt) l32 h32 hlt (Rat.le_trans hd (hw_mono ?_))
    omega
/-! ## The divisor's size -/
end Go.Vw

/-
  Intervals that are halved until each has one root: what the list is. Conditions: as each says.
-/
namespace Go.Vw

inductive Iso (C : Rat → Rat → Int) : I2 → List I2 → Prop
  | zero {x : I2} (h : C x.1 x.2 = 0) : Iso C x []
  | one {x : I2} (h : C x.1 x.2 = 1) : Iso C x [x]
  | two {x : I2} {l m : List I2} (h0 : C x.1 x.2 ≠ 0) (h1 : C x.1 x.2 ≠ 1) (hl : Iso C (x.1, mid2 x) l) (hm : Iso C (mid2 x, x.2) m) : Iso C x (l ++ m)
structure Cnt (C : Rat → Rat → Int) : Prop where
  none : ∀ a b, ¬ a < b → C a b = 0
  nonneg : ∀ a b, a < b → 0 ≤ C a b
  add : ∀ a m b, a < m → m < b → C a m + C m b = C a b
theorem Iso.len {C : Rat → Rat → Int} (hC : Cnt C) {x : I2} {l : List I2} (h : Iso C x l) : (l.length : Int) = C x.1 x.2 := by
  induction h with
  | zero h => exact h.symm
  | one h => exact h.symm
  | two h0 h1 _ _ i1 i2 =>
    rename_i x l m _ _
    have hlt : x.1 < x.2 := Classical.byContradiction fun e => h0 (hC.none _ _ e)
    obtain ⟨m1, m2⟩ := (mid_bd (Rat.le_of_lt hlt)).2.2 hlt
    have := hC.add _ _ _ m1 m2
    rw [List.length_append]
    dsimp only at i1 i2
    omega
theorem Iso.parts {C : Rat → Rat → Int} (hC : Cnt C) {x : I2} {l : List I2} (h : Iso C x l) : (∀ y ∈ l, x.1 ≤ y.1 ∧ y.1 < y.2 ∧ y.2 ≤ x.2 ∧ C y.1 y.2 = 1) ∧ l.Pairwise (fun a b => a.2 ≤ b.1) := by
  induction h with
  | zero h => exact ⟨fun y hy => by simp at hy, List.Pairwise.nil⟩
  | one h =>
    rename_i x
    refine ⟨fun y hy => ?_, by simp⟩
    rw [List.mem_singleton.1 hy]
    have hlt : x.1 < x.2 := Classical.byContradiction fun e => by rw [hC.none _ _ e] at h; cases h
    exact ⟨Rat.le_refl, hlt, Rat.le_refl, h⟩
  | two h0 h1 _ _ i1 i2 =>
    rename_i x l m _ _
    have hlt : x.1 < x.2 := Classical.byContradiction fun e => h0 (hC.none _ _ e)
    obtain ⟨m1, m2⟩ := (mid_bd (Rat.le_of_lt hlt)).2.2 hlt
    obtain ⟨a1, a2⟩ := i1
    obtain ⟨b1, b2⟩ := i2
    refine ⟨fun y hy => ?_, List.pairwise_append.2 ⟨a2, b2, fun u hu v hv => ?_⟩⟩
    · rcases List.mem_append.1 hy with hy | hy
      · obtain ⟨c1, c2, c3, c4⟩ := a1 y hy
        exact ⟨c1, c2, Rat.le_trans c3 (Rat.le_of_lt m2), c4⟩
      · obtain ⟨c1, c2, c3, c4⟩ := b1 y hy
        exact ⟨Rat.le_trans (Rat.le_of_lt m1) c1, c2, c3, c4⟩
    · exact Rat.le_trans (a1 u hu).2.2.1 (b1 v hv).1
theorem half_w {x : I2} {w : Rat} (h : x.1 ≤ x.2) (hw : x.2 - x.1 ≤ w) : mid2 x - x.1 ≤ w / 2 ∧ x.2 - mid2 x ≤ w / 2 := by
  have e1 := half_eq (x.1 + x.2)
  have e2 := half_eq w
  unfold mid2
  generalize (x.1 + x.2) / 2 = m at *
  generalize w / 2 = d at *
  constructor <;> grind
end Go.Vw

/-
  Drawn regions with calls that hand back a list of their own. Conditions: the table of types is the program's.
-/
set_option linter.unusedSectionVars false
namespace Go.Vw
open Go.RowKit
def isAppC (o : Oper) : Bool := match o.op with | .call _ => true | _ => false
def conflAC (all : Array Oper) (a b : Oper) : Bool := looksB all b a.dst || looksB all a b.dst || (match a.dst, b.dst with | some x, some y => x == y | _, _ => false) || (isAppC a && isAppC b)
def ordAC (ops : Array Oper) (n : Nat) : Bool :=
  backward ops && Nat.ble n ops.size &&
  ((List.range n).all fun j => match ops[j]? with
    | some b => (List.range j).all fun i => match ops[i]? with
      | some a => !(conflAC ops a b) || ((masks ops.toList []).getD j 0).testBit i
      | none => false
    | none => false) &&
  ((List.range ops.size).all fun i => Nat.blt i n || Nat.beq ((masks ops.toList []).getD i 0) (2 ^ i - 1)) &&
  ((List.range n).all fun j => match ops[j]? with
    | some b => isAppC b || (List.range n).all fun i => match ops[i]? with | some a => !(isAppC a) || !(looksB ops b a.dst) | none => false
    | none => false)
structure OrdAC (ops : Array Oper) (n : Nat) : Prop where
  tf : TailFacts ops n
  ord : ∀ i j a b, i < j → j < n → ops[i]? = some a → ops[j]? = some b → conflAC ops a b = true → ((masks ops.toList []).getD j 0).testBit i = true
  reg : ∀ i j a b, i < n → j < n → ops[i]? = some a → ops[j]? = some b → isAppC a = true → isAppC b = false → looksB ops b a.dst = false
theorem ordA_specC {ops : Array Oper} {n : Nat} (h : ordAC ops n = true) : OrdAC ops n := by
  simp only [ordAC, Bool.and_eq_true] at h
  obtain ⟨⟨⟨⟨hb, hle⟩, hm⟩, ht⟩, hr⟩ := h
  refine ⟨⟨fun i o hi e he hbind => ?_, Nat.le_of_ble_eq_true hle, fun i h1 h2 j hj => ?_⟩, fun i j a b hij hj ha hb' hc => ?_, fun i j a b hi hj ha hb' h1 h2 => ?_⟩
  · simp only [backward, List.all_eq_true, List.mem_range] at hb
    have := hb i (Array.getElem?_eq_some_iff.1 hi).1
    rw [hi] at this
    simp only [List.all_eq_true] at this
    have := this e (by simpa using he)
    rw [hbind] at this
    simpa [Nat.blt_eq] using this
  · simp only [List.all_eq_true, List.mem_range] at ht
    have h3 := ht i h2
    have hnb : Nat.blt i n = false := by
      cases hq : Nat.blt i n with
      | false => rfl
      | true => have : i < n := by simpa [Nat.blt_eq] using hq
                omega
    rw [hnb, Bool.false_or] at h3
    have h4 := Nat.eq_of_beq_eq_true h3
    rw [h4, Nat.testBit_two_pow_sub_one]
    simpa using hj
  · simp only [List.all_eq_true, List.mem_range] at hm
    have h1 := hm j hj
    rw [hb'] at h1
    simp only [List.all_eq_true, List.mem_range] at h1
    have h2 := h1 i hij
    rw [ha] at h2
    simp only [hc, Bool.not_true, Bool.false_or] at h2
    exact h2
  · simp only [List.all_eq_true, List.mem_range] at hr
    have h3 := hr j hj
    rw [hb'] at h3
    simp only [h2, Bool.false_or, List.all_eq_true, List.mem_range] at h3
    have h4 := h3 i hi
    rw [ha] at h4
    simpa only [h1, Bool.not_true, Bool.false_or, Bool.not_eq_true'] using h4

inductive PRunAC (X : Ctx) (all : Array Oper) (ks : List Nat) : List Oper → St → St → Prop
  | nil {s : St} : PRunAC X all ks [] s s
  | reg {o : Oper} {rest : List Oper} {s s' : St} {x : V} (hd : dstOk X.N o.dst = true) (h : ∀ s' : St, (∀ t ∈ o.looksAt all, s'.tmps t = s.tmps t) → M1 X all s' o x) (hna : isAppC o = false) (hx : (ks.all fun k => x.noKey k) = true) (k : PRunAC X all ks rest (s.put o.dst x) s') : PRunAC X all ks (o :: rest) s s'
  | app {o : Oper} {rest : List Oper} {s s' : St} {d : Tmp} {x : V} {k : Nat} {b : Blk} (ha : isAppC o = true) (hd : o.dst = some d) (hk : ks.contains k = true) (h : ∀ s' : St, s'.blk = s.blk → (∀ t ∈ o.looksAt all, s'.tmps t = s.tmps t) → E1 X all s' o ((s'.new k b).put (some d) x)) (kk : PRunAC X all ks rest ((s.new k b).put (some d) x) s') : PRunAC X all ks (o :: rest) s s'
inductive UpdOkAC (X : Ctx) (all : Array Oper) (ks : List Nat) (s : St) (o : Oper) : UpdA → Prop
  | reg {x : V} (hd : dstOk X.N o.dst = true) (h : ∀ s' : St, (∀ t ∈ o.looksAt all, s'.tmps t = s.tmps t) → M1 X all s' o x) (hna : isAppC o = false) (hx : (ks.all fun k => x.noKey k) = true) : UpdOkAC X all ks s o (.reg o.dst x)
  | app {d : Tmp} {x : V} {k : Nat} {b : Blk} (ha : isAppC o = true) (hd : o.dst = some d) (hk : ks.contains k = true) (h : ∀ s' : St, s'.blk = s.blk → (∀ t ∈ o.looksAt all, s'.tmps t = s.tmps t) → E1 X all s' o ((s'.new k b).put (some d) x)) : UpdOkAC X all ks s o (.app d x k b)
theorem prunA_usC {X : Ctx} {all : Array Oper} {ks : List Nat} : ∀ {l : List Oper} {s s' : St}, PRunAC X all ks l s s' → ∃ us : Nat → UpdA, s' = accA s us (fun _ => true) l.length ∧ ∀ i o, l[i]? = some o → UpdOkAC X all ks (accA s us (fun _ => true) i) o (us i)
  | [], s, s', h => by
    cases h
    exact ⟨fun _ => .reg none (.d .undef), rfl, fun i o h => by simp at h⟩
  | o :: rest, s, s', h => by
    have shift : ∀ (u0 : UpdA) (us : Nat → UpdA) (m : Nat) (s0 : St), accA s0 (fun i => match i with | 0 => u0 | i + 1 => us i) (fun _ => true) (m + 1) = accA (apA s0 u0) us (fun _ => true) m := fun u0 us m s0 => by
      induction m with
      | zero => rfl
      | succ m ih => rw [accA, ih]; rfl
    have fin : ∀ (u0 : UpdA), UpdOkAC X all ks s o u0 → PRunAC X all ks rest (apA s u0) s' → ∃ us : Nat → UpdA, s' = accA s us (fun _ => true) (o :: rest).length ∧ ∀ i o', (o :: rest)[i]? = some o' → UpdOkAC X all ks (accA s us (fun _ => true) i) o' (us i) := fun u0 h0 hk => by
      obtain ⟨us, h1, h2⟩ := prunA_usC hk
      refine ⟨fun i => match i with | 0 => u0 | i + 1 => us i, ?_, fun i o' hi => ?_⟩
      · rw [List.length_cons, shift, h1]
      · cases i with
        | zero => simp at hi; subst hi; exact h0
        | succ i => rw [shift]; exact h2 i o' (by simpa using hi)
    cases h with
    | reg hd hm hna hx hk => exact fin _ (.reg hd hm hna hx) hk
    | app ha hd hk hm kk => exact fin _ (.app ha hd hk hm) kk

theorem awp_region_appC {X : Ctx} (hm : X.P.follows .mixedOrders = true) {id : Nat} {ops : List Oper} (n : Nat) (ks : List Nat) (hok : ordAC ops.toArray n = true) {Q : Exit → St → Prop} {sx s1 : St} (hKs : (ks.all fun k => !(X.K.contains k)) = true) (hdf : sx.dfs = []) (hrun : PRunAC X ops.toArray ks (ops.take n) (sx.kills ks) s1) (htail : awpL X ops.toArray (ops.drop n) Q s1) : awp X (.region id ops.toArray true) Q sx := by
  have hf := ordA_specC hok
  have hfree := FreeSt.kills (s := sx) ks
  have hdf2 : (sx.kills ks).dfs = [] := by
    clear hrun hfree hKs
    induction ks with
    | nil => exact hdf
    | cons k r ih =>
      show dfSub k none (sx.kills r).dfs = []
      rw [ih]; rfl
  have main : awp X (.region id ops.toArray true) Q (sx.kills ks) := by
    generalize sx.kills ks = s at hfree hrun hdf2
    obtain ⟨us, hs1, hx⟩ := prunA_usC hrun
    have hle := hf.tf.le
    have hsz : ops.toArray.size = ops.length := rfl
    have getop : ∀ i, i < n → (ops.take n)[i]? = ops.toArray[i]? := fun i hi => by simp [List.getElem?_take, hi]
    have hlen : (ops.take n).length = n := by simp; omega
    rw [hlen] at hs1
    have ok : ∀ i o, i < n → ops.toArray[i]? = some o → UpdOkAC X ops.toArray ks (accA s us (fun _ => true) i) o (us i) := fun i o hi ho => hx i o (by rw [getop i hi]; exact ho)
    have getn : ∀ j, j < n → ∃ o, ops.toArray[j]? = some o := fun j hj => ⟨_, Array.getElem?_eq_getElem (by omega)⟩
    have dstOf : ∀ i o, i < n → ops.toArray[i]? = some o → (us i).dst = o.dst ∧ (us i).isApp = isAppC o := fun i o hi ho => by
      have := ok i o hi ho
      generalize us i = u at this
      cases this with
      | reg _ _ hna => exact ⟨rfl, hna.symm⟩
      | app ha hd => exact ⟨hd.symm, ha.symm⟩
    have regx : ∀ i, i < n → ∀ d x, us i = .reg d x → ∀ k ∈ ks, x.noKey k = true := fun i hi d x hu k hk => by
      obtain ⟨o, ho⟩ := getn i hi
      have := ok i o hi ho
      rw [hu] at this
      cases this with
      | reg _ _ _ hx => rw [List.all_eq_true] at hx; exact hx k hk
    have appk : ∀ i, i < n → ∀ d x k b, us i = .app d x k b → k ∈ ks := fun i hi d x k b hu => by
      obtain ⟨o, ho⟩ := getn i hi
      have := ok i o hi ho
      rw [hu] at this
      cases this with
      | app _ _ hk => simpa [List.contains_eq_mem] using hk
    have full : ∀ i, i ≤ n → accA s us (fun _ => true) i = accA s us (fun j => decide (j < i)) n := fun i hi => by
      have h1 : accA s us (fun _ => true) i = accA s us (fun j => decide (j < i)) i := accA_congr i fun j hj => by simp [hj]
      have h2 : ∀ m, i ≤ m → m ≤ n → accA s us (fun j => decide (j < i)) m = accA s us (fun j => decide (j < i)) i := by
        intro m
        induction m with
        | zero => intro h1 _; obtain rfl : i = 0 := by omega
                  rfl
        | succ m ih =>
          intro h1 h2
          by_cases e : i = m + 1
          · rw [e]
          · simp only [accA]; rw [ih (by omega) (by omega)]; simp [show ¬ m < i by omega]
      rw [h1, h2 n hi (Nat.le_refl _)]
    refine awp_region_gen hm n hf.tf (fun L => accA s us L n) (s1 := s1) ?_ (fun L h1 h2 => ?_) (fun L i o hi ho hLi hLn hLp hLc => ?_) htail
    · have : ∀ m, accA s us (fun _ => false) m = s := by
        intro m
        induction m with
        | zero => rfl
        | succ m ih => simp only [accA, cond_false]; exact ih
      exact this n
    · rw [hs1]
      exact accA_congr n fun j hj => h1 j hj
    · have diff : ∀ j b, j < n → ops.toArray[j]? = some b → conflAC ops.toArray b o = true ∨ conflAC ops.toArray o b = true → L j = decide (j < i) := fun j b hj hb hc => by
        have sym : conflAC ops.toArray b o = true ∧ conflAC ops.toArray o b = true := by
          have : conflAC ops.toArray b o = conflAC ops.toArray o b := by
            unfold conflAC
            rw [Bool.or_comm (looksB ops.toArray o b.dst), Bool.and_comm (isAppC b)]
            congr 1
            congr 1
            cases b.dst <;> cases o.dst <;> simp [Bool.beq_comm, eq_comm]
          rw [this] at hc ⊢
          simpa using hc
        rcases Nat.lt_trichotomy j i with h | h | h
        · rw [decide_eq_true h]; exact hLp j h (hf.ord j i b o h hi hb ho sym.1)
        · subst h; rw [hLi, decide_eq_false (by omega)]
        · rw [decide_eq_false (by omega)]
          cases hL : L j with
          | false => rfl
          | true =>
            have := hLc j hL i (hf.ord i j o b h hj ho hb sym.2)
            rw [hLi] at this; cases this
      have hins : accA s us (insL L i) n = apA (accA s us L n) (us i) := accA_insert hLi n hi fun j hij hjn hLj s0 => by
        obtain ⟨b, hb⟩ := getn j hjn
        have hnc : conflAC ops.toArray o b = false := by
          cases hc : conflAC ops.toArray o b with
          | false => rfl
          | true =>
            have := hLc j hLj i (hf.ord i j o b hij hjn ho hb hc)
            rw [hLi] at this; cases this
        simp only [conflAC, Bool.or_eq_false_iff] at hnc
        obtain ⟨⟨_, h3⟩, h4⟩ := hnc
        have hd : ∀ t, (us i).dst = some t → (us j).dst ≠ some t := fun t e1 e2 => by
          rw [(dstOf i o hi ho).1] at e1
          rw [(dstOf j b hjn hb).1] at e2
          rw [e1, e2] at h3
          simp at h3
        have hap : ¬ ((us i).isApp = true ∧ (us j).isApp = true) := fun ⟨e1, e2⟩ => by
          rw [(dstOf i o hi ho).2] at e1
          rw [(dstOf j b hjn hb).2] at e2
          rw [e1, e2] at h4; cases h4
        cases hui : us i with
        | reg d x =>
          rw [hui] at hd
          cases huj : us j with
          | reg d' x' => rw [huj] at hd; simp only [apA]; exact put_comm hd
          | app d' x' k' b' =>
            rw [huj] at hd
            simp only [apA]
            rw [new_put (regx i hi d x hui k' (appk j hjn d' x' k' b' huj))]
            exact put_comm (d := d) (d' := some d') hd
        | app d x k' b' =>
          rw [hui] at hd hap
          cases huj : us j with
          | reg d' x' =>
            rw [huj] at hd
            simp only [apA]
            rw [new_put (regx j hjn d' x' huj k' (appk i hi d x k' b' hui))]
            exact put_comm (d := some d) (d' := d') hd
          | app d' x' k'' b'' => rw [huj] at hap; exact absurd ⟨rfl, rfl⟩ hap
      show E1 X ops.toArray (accA s us L n) o (accA s us (insL L i) n)
      rw [hins]
      have hoki := ok i o hi ho
      cases hui : us i with
      | reg d x =>
        rw [hui] at hoki
        cases hoki with
        | reg hd h hna hxx =>
          refine (h (accA s us L n) fun t ht => ?_).e1 hd
          rw [full i (by omega)]
          refine (accA_reg (ks := ks) (fun k hk => (hfree k hk).tm t) n (fun j hj hu => ?_) regx appk).1
          obtain ⟨b, hb⟩ := getn j hj
          have hbd : b.dst = some t := by rw [← (dstOf j b hj hb).1]; exact hu
          refine ⟨diff j b hj hb (.inl (by simp [conflAC, hbd, looksB_of ht])), ?_⟩
          rw [(dstOf j b hj hb).2]
          cases hab : isAppC b with
          | false => rfl
          | true =>
            have := hf.reg j i b o hj hi hb ho hab hna
            rw [hbd, looksB_of ht] at this; cases this
      | app d x k b =>
        rw [hui] at hoki
        cases hoki with
        | app ha hd hk h =>
          have happ : ∀ j, j < n → (us j).isApp = true → L j = decide (j < i) := fun j hj hu => by
            obtain ⟨b', hb'⟩ := getn j hj
            exact diff j b' hj hb' (.inl (by simp [conflAC, ha, ← (dstOf j b' hj hb').2, hu]))
          refine h (accA s us L n) ?_ fun t ht => ?_
          · rw [full i (by omega)]
            exact accA_blk n happ
          · rw [full i (by omega)]
            refine accA_app n (fun j hj hu => ?_) happ
            obtain ⟨b', hb'⟩ := getn j hj
            have hbd : b'.dst = some t := by rw [← (dstOf j b' hj hb').1]; exact hu
            exact diff j b' hj hb' (.inl (by simp [conflAC, hbd, looksB_of ht]))
  intro io F a w hs
  obtain ⟨io', hs'⟩ := SR.kills ks io (fun k hk => by
    simp only [List.all_eq_true] at hKs
    have := hKs k hk
    simpa [List.contains_eq_mem] using this) hs
  exact main io' F a w hs'

def awpAC (ks : List Nat) (X : Ctx) (all : Array Oper) (pre rest : List Oper) (Q : Exit → St → Prop) (s : St) : Prop := ∃ s1, PRunAC X all ks pre s s1 ∧ awpL X all rest Q s1
section
variable {X : Ctx} {all : Array Oper} {Q : Exit → St → Prop} {s : St} {o : Oper} {pre rest : List Oper} {ks : List Nat}
theorem awpA_nilC (h : awpL X all rest Q s) : awpAC ks X all [] rest Q s := ⟨s, .nil, h⟩
theorem stepAQC {d : Tmp} {C : Prop} {x : V} (m : Bool) (hk : Nat.beq (opK o.op) 0 = true) (hg : gd all s o = some true) (hdst : o.dst = some d) (hd : dstOk X.N (some d) = true) (hq : evalF X.T m s o.op = some (C, x)) (hC : C) (hfr : freeOp s o = true) (hna : isAppC o = false) (hf : (ks.all fun k => x.noKey k) = true) (k : awpAC ks X all pre rest Q (s.put (some d) x)) : awpAC ks X all (o :: pre) rest Q s := by
  rw [← hdst] at hd k
  obtain ⟨s1, h1, h2⟩ := k
  refine ⟨s1, .reg hd (fun s' hs' => m_q m ((gd_agree hs').trans hg) ?_ hC) hna hf h1, h2⟩
  rw [evalF_eq] at hq ⊢
  unfold freeOp at hfr
  rw [Bool.or_eq_true, Bool.or_eq_true] at hfr
  rcases hfr with (hfr | hfr) | hfr
  · rw [evalQ_move hfr hs']; exact hq
  · rw [evalQ_slice hfr hs']; exact hq
  · rw [Bool.and_eq_true] at hfr
    refine evalQ_load hfr.1 hq hs' fun k b hkey _ => ?_
    rw [hkey] at hfr
    cases hfr.2
def isBd (o : Oper) : Bool := match o.op with | .build .. => true | _ => false
theorem evalQ_bd {T : TypeId → Option TyD} {m : Bool} {s' : St} (hm : isBd o = true) (h : ∀ t ∈ o.looksAt all, s'.tmps t = s.tmps t) : evalQ T m s' o.op = evalQ T m s o.op := by
  have hop := fun y hy => opd_agree (s := s) (s' := s') (o := o) (all := all) (y := y) hy h
  unfold isBd at hm
  split at hm
  · rename_i t parts e
    rw [e] at hop ⊢
    have e1 : (parts.toList.map fun p => (p.1, s'.opd p.2)) = parts.toList.map fun p => (p.1, s.opd p.2) := List.map_congr_left fun p hp => by
      rw [hop p.2 (by simp only [Op.operands]; simp; exact ⟨p.1, by simpa using hp⟩)]
    simp only [evalQ, e1]
  · cases hm
theorem stepABd {d : Tmp} {C : Prop} {x : V} (m : Bool) (hk : Nat.beq (opK o.op) 0 = true) (hg : gd all s o = some true) (hdst : o.dst = some d) (hd : dstOk X.N (some d) = true) (hq : evalF X.T m s o.op = some (C, x)) (hC : C) (hfr : isBd o = true) (hna : isAppC o = false) (hf : (ks.all fun k => x.noKey k) = true) (k : awpAC ks X all pre rest Q (s.put (some d) x)) : awpAC ks X all (o :: pre) rest Q s := by
  rw [← hdst] at hd k
  obtain ⟨s1, h1, h2⟩ := k
  refine ⟨s1, .reg hd (fun s' hs' => m_q m ((gd_agree hs').trans hg) ?_ hC) hna hf h1, h2⟩
  rw [evalF_eq] at hq ⊢
  rw [evalQ_bd hfr hs']; exact hq
theorem refsL_data : ∀ ds : List D, V.refsL (ds.map V.d) = []
  | [] => by simp [V.refsL]
  | d :: ds => by
    have ih := refsL_data ds
    simp only [List.map_cons, V.refsL, V.refs, ih]
    rfl
theorem new_over {s : St} {k : Nat} {b : Blk} : (s.subs [k]).over [(k, b)] = s.new k b := by
  refine St.eta (funext fun t => rfl) (funext fun j => ?_) rfl
  show (match lookB [(k, b)] j with | some b => some b | none => (s.sub k none).blk j) = (bif Nat.beq j k then some b else (s.sub k none).blk j)
  simp only [lookB]
  cases Nat.beq j k <;> rfl
theorem clAC {c : Call} {caps : List V} {ds ds' : List D} {d : Tmp} {k : Nat} {b : Blk} {y : V} (f : FuncId) (hr : RetB X.P f (ds'.map V.d) (lookB []) y (lookB [(k, b)])) (hop : o.op = .call c) (hc : calleeOf s c = some (f, caps)) (hdst : o.dst = some d) (hg : gd all s o = some true) (hd : dstOk X.N (some d) = true) (ha : allD (c.args.toList.map s.opd ++ caps) = some ds) (hks : ks.contains k = true) (hK : X.K.contains k = false) (le : LeVT (ds.map V.d) (ds'.map V.d)) (r : awpAC ks X all pre rest Q ((s.new k b).put (some d) y)) : awpAC ks X all (o :: pre) rest Q s := by
  have hx : c.args.toList.map s.opd ++ caps = ds.map V.d := allD_map ha
  obtain ⟨s1, h1, h2⟩ := r
  refine ⟨s1, .app (by unfold isAppC; rw [hop]) hdst hks (fun s' hb' htm => ?_) h1, h2⟩
  obtain ⟨e1, e2⟩ := callee_agree (s := s) hop htm
  have h := e_callB (X := X) (all := all) (s := s') (o := o) [k] ((gd_agree htm).trans hg) (by rw [hdst]; exact hd) hop (e1.trans hc) (xs := ds'.map V.d) (by rw [e2, hx]; exact le) hr (fun k b h => by cases h) (fun k hk => ?_) (fun k b h => by cases h) (fun j hj => ?_) (fun j hj => ?_)
  · rw [new_over, hdst] at h
    exact h
  · exfalso
    have : V.refsL (ds'.map V.d) = [] := refsL_data ds'
    rw [this] at hk
    cases hk
  · right
    simp only [lookB] at hj
    cases hb : Nat.beq j k with
    | true => rw [Nat.eq_of_beq_eq_true hb]; exact List.mem_singleton.2 rfl
    | false => rw [hb] at hj; exact absurd rfl hj
  · rw [List.mem_singleton.1 hj]
    exact ⟨by simpa [List.contains_eq_mem] using hK, rfl⟩
theorem goAC {G : Prop} {ops : List Oper} (k : G) (h : G → awpAC ks X all ops rest Q s := by
  first
  | exact Go.Vw.stepAQC true Go.Vw.tt Go.Vw.stt rfl rfl rfl Go.Vw.sc rfl rfl rfl
  | exact Go.Vw.awpA_nilC
  | exact Go.Vw.stepABd true Go.Vw.tt Go.Vw.stt rfl rfl rfl Go.Vw.sc rfl rfl rfl
  | exact Go.Vw.stepAQC false Go.Vw.tt Go.Vw.stt rfl rfl rfl Go.Vw.sc rfl rfl rfl
  | fail) : awpAC ks X all ops rest Q s := h k
theorem awp_regAC (id n : Nat) (ks : List Nat) {ops : List Oper} (h : awpAC ks X ops.toArray (ops.take n) (ops.drop n) Q (s.kills ks)) (hm : X.P.follows .mixedOrders = true) (hok : ordAC ops.toArray n = true) (hK : (ks.all fun k => !(X.K.contains k)) = true) (hdf : s.dfs = []) : awp X (.region id ops.toArray true) Q s := by
  obtain ⟨s1, h1, h2⟩ := h
  exact awp_region_appC hm n ks hok hK hdf h1 h2
end
end Go.Vw
