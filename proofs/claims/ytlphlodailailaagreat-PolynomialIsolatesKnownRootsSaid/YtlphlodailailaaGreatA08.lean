/-
  Contracts of functions of the program, and the layer that they are walked with: VU OrdersB OrdersC OrdersD OrdersE W20 W13 W21 W22 N13 N14 N15 N16 N17 N18 N19 C10 VRf VT VRg PolA PolB. Conditions: as each says.
-/
import Derived.RangeFuncRecord
import Derived.OrdersIn
import Derived.TacticsIn
import Derived.RangeFuncLeaves
import Derived.Test.YtlphlodailailaaGreatA07
/-
  Drawn regions by the sets of operations that have been carried out; lists that are appended to beside other work. Conditions: the table of types is the program's.
-/
set_option linter.unusedSimpArgs false
set_option linter.unusedVariables false
set_option linter.unusedSectionVars false
namespace Go.Vw
open Go.RowKit
def insL (L : Nat → Bool) (i : Nat) : Nat → Bool := fun j => bif Nat.beq j i then true else L j
theorem awp_region_gen {X : Ctx} (hm : X.P.follows .mixedOrders = true) {id : Nat} {ops : List Oper} (n : Nat) (tf : TailFacts ops.toArray n) (A : (Nat → Bool) → St) {Q : Exit → St → Prop} {s s1 : St} (h0 : A (fun _ => false) = s) (h1 : ∀ L, (∀ j, j < n → L j = true) → (∀ j, L j = true → j < n) → A L = s1)
    (step : ∀ (L : Nat → Bool) (i : Nat) (o : Oper), i < n → ops.toArray[i]? = some o → L i = false → (∀ j, L j = true → j < n) → (∀ j, j < i → ((masks ops.toArray.toList []).getD i 0).testBit j = true → L j = true) → (∀ j, L j = true → ∀ k, ((masks ops.toArray.toList []).getD j 0).testBit k = true → L k = true) → E1 X ops.toArray (A L) o (A (insL L i)))
    (htail : awpL X ops.toArray (ops.drop n) Q s1) : awp X (.region id ops.toArray true) Q s := by
  intro io F0 a0 w0 hs
  refine wp_region_any hm ?_
  have hle := tf.le
  have hsz : ops.toArray.size = ops.length := rfl
  have getn : ∀ j, j < n → ∃ o, ops.toArray[j]? = some o := fun j hj => ⟨_, Array.getElem?_eq_getElem (by omega)⟩
  have key : ∀ (u fuel : Nat) (listed : Array Bool) (io : Nat → Option Nat) (F : Nat → Prop) (a : Act) (w : World), (List.range n).countP (fun j => !listed.getD j false) ≤ u → u + (ops.toArray.size - n) ≤ fuel → listed.size = ops.toArray.size →
      (∀ j, listed.getD j false = true → j < n) → (∀ i o, ops.toArray[i]? = some o → listed.getD i false = true → ∀ e ∈ o.after, Region.binds .any e = true → listed.getD e.on false = true) →
      SR X io F (A (fun j => listed.getD j false)) a w → wpAny X.P .any ops.toArray (lift X Q) fuel listed a w := by
    intro u
    induction u with
    | zero =>
      intro fuel listed io F a w hu hfu hsize htl hcl hsr
      have hall : ∀ j, j < n → listed.getD j false = true := fun j hj => by
        have := List.countP_eq_zero.1 (Nat.le_zero.1 hu) j (by simpa using hj)
        simpa using this
      refine wpAny_tail tf (ops.toArray.size - n) n fuel listed a w (Nat.le_refl _) (by omega) (by omega) hsize (fun j => ⟨htl j, hall j⟩) ?_
      rw [h1 _ hall htl] at hsr
      exact htail _ _ _ _ hsr
    | succ u ih =>
      intro fuel listed io F a w hu hfu hsize htl hcl hsr
      by_cases hall : ∀ j, j < n → listed.getD j false = true
      · have h0 : (List.range n).countP (fun j => !listed.getD j false) = 0 := List.countP_eq_zero.2 fun j hj => by simp only [List.mem_range] at hj; simp [hall j hj]
        exact ih fuel listed io F a w (by omega) (by omega) hsize htl hcl hsr
      · have hex : ∃ j, j < n ∧ listed.getD j false ≠ true ∧ ∀ k, k < j → listed.getD k false = true := by
          have : ∃ j, j < n ∧ listed.getD j false ≠ true := by
            rcases Classical.em (∃ j, j < n ∧ listed.getD j false ≠ true) with h | h
            · exact h
            · exact absurd (fun j hj => Classical.byContradiction fun hne => h ⟨j, hj, hne⟩) hall
          obtain ⟨j, hj⟩ := this
          induction j using Nat.strongRecOn with
          | _ j ihj =>
            by_cases hk : ∃ k, k < j ∧ listed.getD k false ≠ true
            · obtain ⟨k, hk1, hk2⟩ := hk
              exact ihj k hk1 ⟨by omega, hk2⟩
            · exact ⟨j, hj.1, hj.2, fun k hk1 => Classical.byContradiction fun h => hk ⟨k, hk1, h⟩⟩
        obtain ⟨j0, hj0, hnl, hless⟩ := hex
        cases fuel with
        | zero => omega
        | succ fuel =>
          obtain ⟨o0, ho0⟩ := getn j0 hj0
          have hready0 : j0 ∈ Region.ready .any ops.toArray listed := mem_ready.2 ⟨by
              simp [show j0 < listed.size by omega] at hnl ⊢
              exact hnl, o0, ho0, fun e he hb => hless _ (tf.back j0 o0 ho0 e he hb)⟩
          refine ⟨fun hnil => (by rw [hnil] at hready0; cases hready0), fun i hi => ?_⟩
          obtain ⟨h0, o, ho, hpre⟩ := mem_ready.1 hi
          have hilt := (Array.getElem?_eq_some_iff.1 ho).1
          have hspec : ∀ j, ((masks ops.toArray.toList []).getD i 0).testBit j = true → listed.getD j false = true ∨ j = i := fun j hbit =>
            masks_spec (fun j => listed.getD j false = true ∨ j = i) ops.toArray.toList [] 0 rfl (fun i h => by simp at h) (fun k' o' h1 h2 e he hb => by
              rcases h2 with h2 | h2
              · left; exact hcl k' o' (by simpa using h1) (by simpa using h2) e he hb
              · left
                simp only [Nat.zero_add] at h2
                subst h2
                have : o' = o := by
                  have h1' : ops.toArray[k']? = some o' := by simpa using h1
                  rw [ho] at h1'; cases h1'; rfl
                subst this
                exact hpre e he hb) (fun k' o' h1 e he hb => by simpa using tf.back k' o' (by simpa using h1) e he hb) i (.inr rfl) j hbit
          have hin : i < n := by
            rcases Nat.lt_or_ge i n with h' | h'
            · exact h'
            · rcases hspec j0 (tf.tail i h' hilt j0 (by omega)) with h | h
              · exact absurd h hnl
              · omega
          have hclm : ∀ j, listed.getD j false = true → ∀ k, ((masks ops.toArray.toList []).getD j 0).testBit k = true → listed.getD k false = true := fun j hj k hk =>
            masks_spec (fun j => listed.getD j false = true) ops.toArray.toList [] 0 rfl (fun i h => by simp at h) (fun k' o' h1 h2 e he hb => hcl k' o' (by simpa using h1) (by simpa using h2) e he hb) (fun k' o' h1 e he hb => by simpa using tf.back k' o' (by simpa using h1) e he hb) j hj k hk
          have hunl : listed.getD i false = false := by
            simp [show i < listed.size by omega] at h0 ⊢
            exact h0
          have hs2 := step (fun j => listed.getD j false) i o hin ho hunl htl (fun j hji hbit => by
            rcases hspec j hbit with h | h
            · exact h
            · omega) hclm io F a w hsr (wpAny X.P .any ops.toArray (lift X Q) fuel (listed.setIfInBounds i true)) (lift X Q) fun io' F' a' w' hs' => by
            have hins : A (insL (fun j => listed.getD j false) i) = A (fun j => (listed.setIfInBounds i true).getD j false) := by
              congr 1
              funext j
              unfold insL
              by_cases e : j = i
              · subst e; simp [getD_set_self (show j < listed.size by omega)]
              · rw [getD_set_ne false (Ne.symm e)]; simp [e]
            rw [hins] at hs'
            refine ih fuel _ io' F' a' w' ?_ (by omega) (by simpa using hsize) (fun j hj => ?_) (fun k ok hk hlk e he hb => ?_) hs'
            · have := countP_lt (p := fun j => !listed.getD j false) (q := fun j => !(listed.setIfInBounds i true).getD j false) (i := i) (by simp [hunl]) (by simp [getD_set_self (show i < listed.size by omega)]) (fun j hj => by
                by_cases e : j = i
                · subst e; simp [hunl]
                · rw [getD_set_ne false (Ne.symm e)] at hj; exact hj) (l := List.range n) (by simpa using hin)
              omega
            · by_cases e : j = i
              · rw [e]; exact hin
              · rw [getD_set_ne false (Ne.symm e)] at hj; exact htl j hj
            · by_cases e' : k = i
              · subst e'
                rw [ho] at hk; cases hk
                exact getD_set_true (hpre e he hb)
              · rw [getD_set_ne false (Ne.symm e')] at hlk
                exact getD_set_true (hcl k ok hk hlk e he hb)
          unfold wpOp
          simp only [ho]
          exact hs2
  have hdr : SR X io F0 (A (fun j => (Array.replicate ops.toArray.size false).getD j false)) a0 w0.drew := by
    have e : (fun j => (Array.replicate ops.toArray.size false).getD j false) = fun _ => false := by
      funext j
      simp only [Array.getD_eq_getD_getElem?, Array.getElem?_replicate]
      split <;> rfl
    rw [e, h0]
    exact hs.drew
  refine key n ops.toArray.size _ io F0 a0 w0.drew ?_ (by omega) (by simp) (fun j hj => ?_) (fun i o ho hl => ?_) hdr
  · exact Nat.le_trans List.countP_le_length (by simp)
  · simp only [Array.getD_eq_getD_getElem?, Array.getElem?_replicate] at hj
    split at hj <;> simp at hj
  · simp only [Array.getD_eq_getD_getElem?, Array.getElem?_replicate] at hl
    split at hl <;> simp at hl

/-! ## Appends -/

def isApp (o : Oper) : Bool := match o.op with | .call c => (match c.callee with | .builtin .append => true | _ => false) | _ => false
def conflA (all : Array Oper) (a b : Oper) : Bool := looksB all b a.dst || looksB all a b.dst || (match a.dst, b.dst with | some x, some y => x == y | _, _ => false) || (isApp a && isApp b)
structure OrdA (ops : Array Oper) (n : Nat) : Prop where
  tf : TailFacts ops n
  ord : ∀ i j a b, i < j → j < n → ops[i]? = some a → ops[j]? = some b → conflA ops a b = true → ((masks ops.toList []).getD j 0).testBit i = true
  reg : ∀ i j a b, i < n → j < n → ops[i]? = some a → ops[j]? = some b → isApp a = true → isApp b = false → looksB ops b a.dst = false
inductive UpdA : Type 1 where
  | reg (d : Option Tmp) (x : V)
  | app (d : Tmp) (x : V) (k : Nat) (b : Blk)
def UpdA.dst : UpdA → Option Tmp
  | .reg d _ => d
  | .app d _ _ _ => some d
def UpdA.isApp : UpdA → Bool
  | .reg _ _ => false
  | .app _ _ _ _ => true
def apA (s : St) : UpdA → St
  | .reg d x => s.put d x
  | .app d x k b => (s.new k b).put (some d) x
def accA (s : St) (us : Nat → UpdA) (L : Nat → Bool) : Nat → St
  | 0 => s
  | n + 1 => bif L n then apA (accA s us L n) (us n) else accA s us L n
theorem new_tmps {s : St} {k : Nat} {b : Blk} (t : Nat) : (s.new k b).tmps t = (s.tmps t).sub k none := rfl
theorem put_tmps {s : St} {d : Tmp} {x : V} (t : Nat) : (s.put (some d) x).tmps t = if t = d then x else s.tmps t := by
  simp only [St.put]
  by_cases h : t = d
  · subst h; simp
  · rw [if_neg h, beq_of_ne h]; rfl
theorem new_put {s : St} {d : Option Tmp} {x : V} {k : Nat} {b : Blk} (h : x.noKey k = true) : (s.put d x).new k b = (s.new k b).put d x := by
  cases d with
  | none => rfl
  | some d =>
    refine St.eta (funext fun t => ?_) rfl rfl
    rw [new_tmps, put_tmps, put_tmps, new_tmps]
    split
    · exact V.sub_noKey _ h
    · rfl
theorem put_comm {s : St} {d d' : Option Tmp} {x x' : V} (h : ∀ t, d = some t → d' ≠ some t) : (s.put d x).put d' x' = (s.put d' x').put d x := by
  cases d with
  | none => rfl
  | some d => cases d' with
    | none => rfl
    | some d' =>
      refine St.eta (funext fun t => ?_) rfl rfl
      simp only [put_tmps]
      by_cases h1 : t = d
      · subst h1
        rw [if_pos rfl, if_pos rfl, if_neg (fun e => h t rfl (by rw [e]))]
      · by_cases h2 : t = d'
        · subst h2; rw [if_pos rfl, if_neg h1, if_pos rfl]
        · rw [if_neg h2, if_neg h1, if_neg h1, if_neg h2]
theorem accA_blk {s : St} {us : Nat → UpdA} {L L' : Nat → Bool} : ∀ n, (∀ i, i < n → (us i).isApp = true → L i = L' i) → (accA s us L n).blk = (accA s us L' n).blk
  | 0, _ => rfl
  | n + 1, h => by
    have ih := accA_blk (s := s) (L := L) (L' := L') n fun i hi => h i (by omega)
    simp only [accA]
    cases hu : us n with
    | reg d x =>
      have e : ∀ (b : Bool) (s0 : St), (bif b then apA s0 (.reg d x) else s0).blk = s0.blk := fun b s0 => by cases b <;> simp [apA, put_blk]
      rw [e, e, ih]
    | app d x k b =>
      rw [h n (by omega) (by rw [hu]; rfl)]
      cases L' n with
      | true =>
        simp only [cond_true, apA, put_blk]
        show (fun j => _) = (fun j => _)
        funext j
        simp only [St.new, St.withBlk, St.sub, ih]
      | false => exact ih
theorem accA_reg {s : St} {us : Nat → UpdA} {ks : List Nat} {L L' : Nat → Bool} {t : Nat} (h0 : ∀ k ∈ ks, (s.tmps t).noKey k = true) : ∀ n, (∀ i, i < n → (us i).dst = some t → L i = L' i ∧ (us i).isApp = false) → (∀ i, i < n → ∀ d x, us i = .reg d x → ∀ k ∈ ks, x.noKey k = true) → (∀ i, i < n → ∀ d x k b, us i = .app d x k b → k ∈ ks) →
    (accA s us L n).tmps t = (accA s us L' n).tmps t ∧ ∀ k ∈ ks, ((accA s us L n).tmps t).noKey k = true
  | 0, _, _, _ => ⟨rfl, h0⟩
  | n + 1, h1, h2, h3 => by
    obtain ⟨ih, ik⟩ := accA_reg (L := L) (L' := L') h0 n (fun i hi => h1 i (by omega)) (fun i hi => h2 i (by omega)) (fun i hi => h3 i (by omega))
    simp only [accA]
    cases hu : us n with
    | reg d x =>
      by_cases hd : d = some t
      · subst hd
        rw [(h1 n (by omega) (by rw [hu]; rfl)).1]
        have hx := h2 n (by omega) _ x hu
        cases L' n with
        | true => simp only [cond_true, apA, put_tmps, if_true, true_and]; exact hx
        | false => exact ⟨ih, ik⟩
      · have e : ∀ (b : Bool) (s0 : St), (bif b then apA s0 (.reg d x) else s0).tmps t = s0.tmps t := fun b s0 => by cases b <;> simp only [cond_true, cond_false, apA]; exact put_tmps_ne hd
        rw [e, e]; exact ⟨ih, ik⟩
    | app d x k b =>
      have hd : ¬ t = d := fun e => by
        have := (h1 n (by omega) (by rw [hu, e]; rfl)).2
        rw [hu] at this; cases this
      have hk := h3 n (by omega) d x k b hu
      have hk' : ∀ k ∈ ks, ((accA s us L' n).tmps t).noKey k = true := by rw [← ih]; exact ik
      have e : ∀ (b' : Bool) (s0 : St), (∀ k ∈ ks, (s0.tmps t).noKey k = true) → (bif b' then apA s0 (.app d x k b) else s0).tmps t = s0.tmps t := fun b' s0 hs => by
        cases b' with
        | true => simp only [cond_true, apA]; rw [put_tmps, if_neg hd, new_tmps, V.sub_noKey _ (hs k hk)]
        | false => rfl
      rw [e _ _ ik, e _ _ hk']; exact ⟨ih, ik⟩
theorem accA_app {s : St} {us : Nat → UpdA} {L L' : Nat → Bool} {t : Nat} : ∀ n, (∀ i, i < n → (us i).dst = some t → L i = L' i) → (∀ i, i < n → (us i).isApp = true → L i = L' i) → (accA s us L n).tmps t = (accA s us L' n).tmps t
  | 0, _, _ => rfl
  | n + 1, h1, h2 => by
    have ih := accA_app (s := s) (L := L) (L' := L') (t := t) n (fun i hi => h1 i (by omega)) (fun i hi => h2 i (by omega))
    simp only [accA]
    cases hu : us n with
    | reg d x =>
      by_cases hd : d = some t
      · subst hd
        rw [h1 n (by omega) (by rw [hu]; rfl)]
        cases L' n with
        | true => simp only [cond_true, apA, put_tmps, if_true]
        | false => exact ih
      · have e : ∀ (b : Bool) (s0 : St), (bif b then apA s0 (.reg d x) else s0).tmps t = s0.tmps t := fun b s0 => by cases b <;> simp only [cond_true, cond_false, apA]; exact put_tmps_ne hd
        rw [e, e]; exact ih
    | app d x k b =>
      rw [h2 n (by omega) (by rw [hu]; rfl)]
      cases L' n with
      | true => simp only [cond_true, apA, put_tmps, new_tmps, ih]
      | false => exact ih
theorem accA_insert {s : St} {us : Nat → UpdA} {L : Nat → Bool} {i : Nat} (hL : L i = false) : ∀ n, i < n → (∀ j, i < j → j < n → L j = true → ∀ s0, apA (apA s0 (us i)) (us j) = apA (apA s0 (us j)) (us i)) → accA s us (insL L i) n = apA (accA s us L n) (us i)
  | 0, h, _ => by omega
  | n + 1, h, hc => by
    have same : ∀ j, j ≠ i → insL L i j = L j := fun j hj => by unfold insL; rw [beq_of_ne hj]; rfl
    have hi : insL L i i = true := by unfold insL; simp
    simp only [accA]
    by_cases e : i = n
    · subst e
      have h2 : accA s us (insL L i) i = accA s us L i := by
        have : ∀ m, m ≤ i → accA s us (insL L i) m = accA s us L m := by
          intro m
          induction m with
          | zero => intro _; rfl
          | succ m ih => intro hm; simp only [accA]; rw [ih (by omega), same m (by omega)]
        exact this i (Nat.le_refl _)
      rw [hi, hL, h2]; rfl
    · rw [accA_insert hL n (by omega) (fun j h1 h2 => hc j h1 (by omega)), same n (Ne.symm e)]
      cases hn : L n with
      | true => simp only [cond_true]; exact hc n (by omega) (by omega) hn _
      | false => rfl
theorem accA_congr {s : St} {us : Nat → UpdA} {L L' : Nat → Bool} : ∀ m, (∀ j, j < m → L j = L' j) → accA s us L m = accA s us L' m
  | 0, _ => rfl
  | m + 1, h => by simp only [accA]; rw [accA_congr m (fun j hj => h j (by omega)), h m (by omega)]

inductive PRunA (X : Ctx) (all : Array Oper) (ks : List Nat) : List Oper → St → St → Prop
  | nil {s : St} : PRunA X all ks [] s s
  | reg {o : Oper} {rest : List Oper} {s s' : St} {x : V} (hd : dstOk X.N o.dst = true) (h : ∀ s' : St, (∀ t ∈ o.looksAt all, s'.tmps t = s.tmps t) → M1 X all s' o x) (hna : isApp o = false) (hx : (ks.all fun k => x.noKey k) = true) (k : PRunA X all ks rest (s.put o.dst x) s') : PRunA X all ks (o :: rest) s s'
  | app {o : Oper} {rest : List Oper} {s s' : St} {d : Tmp} {x : V} {k : Nat} {b : Blk} (ha : isApp o = true) (hd : o.dst = some d) (hk : ks.contains k = true) (h : ∀ s' : St, s'.blk = s.blk → (∀ t ∈ o.looksAt all, s'.tmps t = s.tmps t) → E1 X all s' o ((s'.new k b).put (some d) x)) (kk : PRunA X all ks rest ((s.new k b).put (some d) x) s') : PRunA X all ks (o :: rest) s s'
inductive UpdOkA (X : Ctx) (all : Array Oper) (ks : List Nat) (s : St) (o : Oper) : UpdA → Prop
  | reg {x : V} (hd : dstOk X.N o.dst = true) (h : ∀ s' : St, (∀ t ∈ o.looksAt all, s'.tmps t = s.tmps t) → M1 X all s' o x) (hna : isApp o = false) (hx : (ks.all fun k => x.noKey k) = true) : UpdOkA X all ks s o (.reg o.dst x)
  | app {d : Tmp} {x : V} {k : Nat} {b : Blk} (ha : isApp o = true) (hd : o.dst = some d) (hk : ks.contains k = true) (h : ∀ s' : St, s'.blk = s.blk → (∀ t ∈ o.looksAt all, s'.tmps t = s.tmps t) → E1 X all s' o ((s'.new k b).put (some d) x)) : UpdOkA X all ks s o (.app d x k b)
def isSl (o : Oper) : Bool := match o.op with | .slice .. => true | _ => false
def freeOp (s : St) (o : Oper) : Bool := isMove o || isSl o || (isLoad o && (match keyOf s o with | none => true | _ => false))
section
variable {X : Ctx} {all : Array Oper} {Q : Exit → St → Prop} {s : St} {o : Oper} {pre rest : List Oper} {ks : List Nat}
theorem optI_agree {s' : St} {y : Option Operand} (h : ∀ z, y = some z → s'.opd z = s.opd z) : optI s' y = optI s y := by
  cases y with
  | none => rfl
  | some z => simp only [optI, h z rfl]
theorem evalQ_slice {T : TypeId → Option TyD} {m : Bool} {s' : St} (hm : isSl o = true) (h : ∀ t ∈ o.looksAt all, s'.tmps t = s.tmps t) : evalQ T m s' o.op = evalQ T m s o.op := by
  have hop := fun y hy => opd_agree (s := s) (s' := s') (o := o) (all := all) (y := y) hy h
  unfold isSl at hm
  split at hm
  · rename_i t x lo hi mx e
    rw [e] at hop ⊢
    have h1 := hop x (by simp [Op.operands])
    have h2 : optI s' lo = optI s lo := optI_agree fun z hz => hop z (by subst hz; simp [Op.operands])
    have h3 : optI s' hi = optI s hi := optI_agree fun z hz => hop z (by subst hz; simp [Op.operands])
    have h4 : optI s' mx = optI s mx := optI_agree fun z hz => hop z (by subst hz; simp [Op.operands])
    simp only [evalQ, h1, h2, h3, h4]
  · cases hm
theorem callee_agree {s' : St} {c : Call} (hop : o.op = .call c) (h : ∀ t ∈ o.looksAt all, s'.tmps t = s.tmps t) : calleeOf s' c = calleeOf s c ∧ c.args.toList.map s'.opd = c.args.toList.map s.opd := by
  have ho := fun y hy => opd_agree (s := s) (s' := s') (o := o) (all := all) (y := y) hy h
  rw [hop] at ho
  constructor
  · unfold calleeOf
    cases hc : c.callee with
    | value y =>
      have := ho y (by simp only [Op.operands, Call.operands, hc]; simp)
      simp only [this]
    | _ => rfl
  · exact List.map_congr_left fun y hy => ho y (by simp only [Op.operands, Call.operands]; simp; right; simpa using hy)
end

theorem drt_toV {io : Keys} {F : Nat → Prop} {w : World} {g : Nat → Option Value} : ∀ {ds : List D} {off : Nat}, DRT F w g off ds → VRT io F w g off (ds.map V.d)
  | [], _, _ => by simp only [List.map_nil, VRT]
  | d :: ds, off, h => by
    simp only [DRT] at h
    simp only [List.map_cons, VRT, VR]
    exact ⟨h.1, drt_toV h.2⟩
theorem RetB.toRet {P : Program} {f : FuncId} {ds : List D} {bs' : List (Nat × Blk)} {y : V} (h : RetB P f (ds.map V.d) (lookB []) y (lookB bs')) (m : Bool) {C : Prop} {d : D} (ha : V.asD m (St.of [] bs') y = some (C, d)) (hC : C) : Ret P f ds (· = d) := by
  refine ⟨h.enters, fun F w vs hF hl hv => ?_⟩
  have hno : ∀ io b, ¬ OwnA (lookB []) io b := fun io b ⟨k, hk, _⟩ => hk rfl
  refine (h.run (fun _ => none) F w vs hF (by simpa using hl) (drt_toV hv) ⟨fun k b hk => (by cases hk), fun k k' b e1 => absurd rfl e1⟩).mono fun e w' ⟨v, io', F', he, g1, g2, g3, g4, g5, g6⟩ => ?_
  have hkeys : (St.of [] bs').keys io' = ⟨io', lnO (lookB bs')⟩ := by
    show (⟨io', (St.of [] bs').ln⟩ : Keys) = _
    rw [lnO_eq]; rfl
  have hb : ∀ k b, (St.of [] bs').blk k = some b → BR (OwnA (lookB []) fun _ => none) w.heap.size ((St.of [] bs').keys io') F' w' k b := fun k b hk => by
    rw [hkeys]; exact g6.br k b hk
  refine ⟨v, d, Lent (St.of [] bs') io' F', he, rfl, ⟨g1.os, g1.tape, g1.output, g1.size, fun b hb => g1.block b hb (hno _ b)⟩, fun b hb => .inl (g2 b hb), fun b hb' => ?_, asD_sound hb y v ha hC (by rw [hkeys]; exact g5)⟩
  rcases hb' with h1 | ⟨k, hk, e1⟩
  · obtain ⟨h2, h3⟩ := g3 b h1
    rcases h3 with h3 | h3 | h3
    · exact .inl h3
    · exact .inr ⟨h3, h2⟩
    · exact absurd h3 (hno _ b)
  · obtain ⟨b0, hb0⟩ := Option.ne_none_iff_exists'.1 hk
    obtain ⟨_, h2, h3⟩ := (hb k b0 hb0).notF e1
    rcases h2 with h2 | h2
    · exact absurd h2 (hno _ b)
    · exact .inr ⟨h2, h3⟩
end Go.Vw

/-
  Quantiles split a list. Conditions: as each says.
-/
namespace Go.Vw
end Go.Vw

/-
  The sum of distances is least at the medians. Conditions: as each says.
-/
namespace Go.Vw
theorem between {a b c : Rat} (h : a ≤ b) (h0 : 0 ≤ c) (h1 : c ≤ 1) : a ≤ c * a + (1 - c) * b ∧ c * a + (1 - c) * b ≤ b := by
  have e1 := Rat.mul_nonneg (show 0 ≤ 1 - c by grind) (show 0 ≤ b - a by grind)
  have e2 := Rat.mul_nonneg h0 (show 0 ≤ b - a by grind)
  constructor <;> grind
end Go.Vw

/-
  Means, pairs and differences of lists of rational numbers. Conditions: as each says.
-/
namespace Go.Vw
end Go.Vw

/-
  Sorting by insertion into a list that is made anew. Conditions: as each says.
-/
namespace Go.Vw
theorem gRv {vs : List R3} {i : Nat} (h : i < vs.length) : (vs.map rv).getD i 0 = rv (vs.getD i r0) := by
  simp [List.getD_eq_getElem?_getD, h]
theorem gMem {vs : List R3} {i : Nat} {p : R3 → Prop} (h : ∀ r ∈ vs, p r) (hi : i < vs.length) : p (vs.getD i r0) := by
  have e : vs.getD i r0 = vs[i] := by simp [List.getD_eq_getElem?_getD, hi]
  rw [e]; exact h _ (List.getElem_mem hi)
end Go.Vw

set_option maxHeartbeats 8000000
namespace Go.Proofs.YtlphlodailailaaGreat
open Go.Vw
attribute [local irreducible] awp awpL awpR

abbrev qB (l : List Rat) : Blk := .data 29 3 qC 0 l
abbrev qO (n : Nat) : V := .own 500 0 n 29 3
theorem ownEq {k o n n' : Nat} {ty : TypeId} {sz : Nat} (h : n = n') : V.own k o n ty sz = V.own k o n' ty sz := by rw [h]
end Go.Proofs.YtlphlodailailaaGreat

set_option maxHeartbeats 8000000
namespace Go.Proofs.YtlphlodailailaaGreat
open Go.Vw
attribute [local irreducible] awp awpL awpR

theorem made_ModW (k n : Int) (hk : -9223372036854775808 ≤ k) (hk' : k < 9223372036854775808) (h : 0 < n) (h' : n < 10000000) : Ret Tryz.prog 59 [.int .i64 k, .int .i64 n] (· = .int .i64 (k % n)) := by
  obtain ⟨t1, t2, t3⟩ := tmodFact k n h
  rw [t3]
  refine ret_of_awp tab Tryz.func59 rfl rfl (Nat.le_of_ble_eq_true rfl) (fun w0 F0 => ?_)
  repeat' (first
    | (show awpL _ _ _ _ _; first | refine goL ?_ | (refine gdLG ?_ ?_ <;> intro _ <;> try (exfalso; omega)))
    | (show awp _ _ _ _; first | refine goA ?_ | (refine cdG ?_ ?_ <;> intro _ <;> try (exfalso; omega)))
    | (show andThen _ _ _ _; refine goN ?_)
    | (show inBlock _ _ _ _; refine goB ?_)
    | (show retPost _ _ _ _ _; refine finG ?_))
  · rename_i hc; rw [if_pos hc]
  · rename_i hc; rw [if_neg hc]
def numQ (v : Int) : Rat := Rat.divInt (v % 61 - 30) (1 + v.tdiv 61 % 4)
theorem made_Number (v : Int) (h1 : -9223372036854775808 ≤ v) (h2 : v < 9223372036854775808) : Ret Tryz.prog 14 [.int .i64 v] (· = qD (numQ v)) := by
  have hb : -9223372036854775808 ≤ v.tdiv 61 ∧ v.tdiv 61 < 9223372036854775808 := by
    rcases Int.le_total 0 v with h | h
    · rw [Int.tdiv_eq_ediv_of_nonneg h]; omega
    · obtain ⟨m, rfl⟩ : ∃ m : Int, v = -m := ⟨-v, by omega⟩
      rw [Int.neg_tdiv, Int.tdiv_eq_ediv_of_nonneg (show 0 ≤ m by omega)]; omega
  have m1 := made_ModW v 61 h1 h2 (by decide) (by decide)
  have m2 := made_ModW (v.tdiv 61) 4 hb.1 hb.2 (by decide) (by decide)
  have hw : IntKind.i64.wrap (v.tdiv 61) = v.tdiv 61 := Go.IntWalk.i64_in _ (by omega)
  have f := ref03_FractionQ (v % 61 - 30) (1 + v.tdiv 61 % 4) (by omega) (by omega) (by omega) (by omega)
  unfold numQ
  have r1 := Int.emod_nonneg v (show (61 : Int) ≠ 0 by decide)
  have r2 := Int.emod_lt_of_pos v (show (0 : Int) < 61 by decide)
  have r3 := Int.emod_nonneg (v.tdiv 61) (show (4 : Int) ≠ 0 by decide)
  have r4 := Int.emod_lt_of_pos (v.tdiv 61) (show (0 : Int) < 4 by decide)
  generalize v.tdiv 61 % 4 = z at *
  generalize v % 61 = y at *
  rw [← hw] at m2
  clear hw hb
  refine ret_of_awp tab Tryz.func14 rfl rfl (Nat.le_of_ble_eq_true rfl) (fun w0 F0 => ?_)
  repeat' (first
    | (show awpL _ _ _ _ _; first | refine goL ?_ | refine cl 59 tt rfl rfl rfl (hr := m1) (k := ?_) | refine cl 59 tt rfl rfl rfl (hr := m2) (k := ?_) | refine cl 58 tt rfl rfl rfl (hr := f) (k := ?_) | (refine gdLG ?_ ?_ <;> intro _ <;> try (exfalso; omega)))
    | (show awp _ _ _ _; first | refine goA ?_ | (refine cdG ?_ ?_ <;> intro _ <;> try (exfalso; omega)))
    | (show andThen _ _ _ _; refine goN ?_)
    | (show inBlock _ _ _ _; refine goB ?_)
    | (show retPost _ _ _ _ _; refine finG ?_))
  all_goals rfl
theorem made_Numbers (l : List Int) (m : Nat) (hl : l.length ≤ 9223372036854775807) (hx : I64 l) (hm : m ≤ 1000) : Ret Tryz.prog 24 [i64s l, .int .i64 m] (· = qsD ((l.take m).map numQ)) := by
  refine ret_of_awp tab Tryz.func24 rfl rfl (Nat.le_of_ble_eq_true rfl) (fun w0 F0 => ?_)
  repeat' (first
    | (show awpL _ _ _ _ _; first | refine goL ?_ | (refine gdLG ?_ ?_ <;> intro _ <;> try (exfalso; omega)))
    | (show awp _ _ _ _; first | refine goA ?_ | (refine cdG ?_ ?_ <;> intro _ <;> try (exfalso; omega)))
    | (show andThen _ _ _ _; refine goN ?_)
    | (show inBlock _ _ _ _; refine goB ?_)
    | (show retPost _ _ _ _ _; refine finG ?_))
  refine awp_adopt 5 500 29 3 qC 0 rfl ?_
  refine awp_loop1 (fun (i : Nat) => ([(0, .d (i64s l)), (1, .d (.int .i64 m)), (5, .own 500 0 ((l.take i).map numQ).length 29 3), (6, .d (.int .i64 i))], [(500, .data 29 3 qC 0 ((l.take i).map numQ))])) (fun i => i ≤ l.length ∧ i ≤ m) (fun i => m - i) 0 ⟨by omega, by omega⟩ ⟨rfl, rfl, rfl, rfl, rfl⟩ ⟨rfl, trivial⟩ (fun i hi => ?_)
  obtain ⟨i1, i2⟩ := hi
  have hlen : ((l.take i).map numQ).length = i := by simp; omega
  by_cases h3 : i < l.length ∧ i < m
  · obtain ⟨h4, h5⟩ := h3
    have hg := hx.getD i
    have hn := made_Number (l.getD i 0) hg.1 hg.2
    have e : (l.take i).map numQ ++ [numQ (l.getD i 0)] = (l.take (i + 1)).map numQ := by
      rw [List.take_add_one, List.map_append, List.getElem?_eq_getElem h4, List.getD_eq_getElem?_getD, List.getElem?_eq_getElem h4]
      rfl
    repeat' (first
      | (show awpL _ _ _ _ _; first | refine goL ?_ | refine cl 14 tt rfl rfl rfl (hr := hn) (k := ?_) | (refine gdLG ?_ ?_ <;> intro _ <;> try (exfalso; omega)))
      | (show awp _ _ _ _; first | refine goA ?_ | (refine cdG ?_ ?_ <;> intro _ <;> try (exfalso; omega)))
      | (show andThen _ _ _ _; refine goN ?_)
      | (show inBlock _ _ _ _; refine goB ?_)
      | (show retPost _ _ _ _ _; refine finG ?_))
    exact ⟨i + 1, ⟨by omega, by omega⟩, by omega, ⟨rfl, rfl, by rw [← e]; rfl, iv (by omega), rfl⟩, by rw [← e]; rfl, trivial⟩
  · have e : l.take i = l.take m := by
      by_cases h4 : i < l.length
      · rw [show i = m by omega]
      · rw [List.take_of_length_le (by omega), List.take_of_length_le (by omega)]
    rw [e] at hlen ⊢
    repeat' (first
      | (show awpL _ _ _ _ _; first | refine goL ?_ | (refine gdLG ?_ ?_ <;> intro _ <;> try (exfalso; omega)))
      | (show awp _ _ _ _; first | refine goA ?_ | (refine cdG ?_ ?_ <;> intro _ <;> try (exfalso; omega)))
      | (show andThen _ _ _ _; refine goN ?_)
      | (show inBlock _ _ _ _; refine goB ?_)
      | (show retPost _ _ _ _ _; refine finG ?_))
    all_goals rfl
end Go.Proofs.YtlphlodailailaaGreat

set_option maxHeartbeats 8000000
namespace Go.Proofs.YtlphlodailailaaGreat
open Go.Vw
attribute [local irreducible] awp awpL awpR

end Go.Proofs.YtlphlodailailaaGreat

set_option maxHeartbeats 8000000
namespace Go.Proofs.YtlphlodailailaaGreat
open Go.Vw
attribute [local irreducible] awp awpL awpR

end Go.Proofs.YtlphlodailailaaGreat

namespace Go.Proofs.YtlphlodailailaaGreat
open Go.Vw
attribute [local irreducible] awp awpL awpR

theorem ref04_Valid (a b : R3) (ha : RatOk a 200000) (hb : RatOk b 200000) : Ret Tryz.prog 103 [iD a b] (· = .bool (validR a && validR b && decide (rv a ≤ rv b))) := by
  have h1 := ref03_Valid a (ha.up (by decide))
  have h2 := ref03_Valid b (hb.up (by decide))
  have hl := ref03_Less b a (hb.up (by decide)) (ha.up (by decide))
  rw [show decide (rv a ≤ rv b) = !decide (rv b < rv a) by rw [← decide_not]; exact decide_eq_decide.2 Rat.not_lt.symm]
  generalize decide (rv b < rv a) = z at *
  generalize validR a = x at *
  generalize validR b = y at *
  cases x <;> cases y <;> cases z
  all_goals
    refine ret_of_awp tab Tryz.func103 rfl rfl (Nat.le_of_ble_eq_true rfl) (fun w0 F0 => ?_)
    repeat' (first
      | (show awpL _ _ _ _ _; first | refine goL ?_ | refine cl 128 tt rfl rfl rfl (hr := h1) (k := ?_) | refine cl 128 tt rfl rfl rfl (hr := h2) (k := ?_) | refine cl 28 tt rfl rfl rfl (hr := hl) (k := ?_) | (refine gdLG ?_ ?_ <;> intro _ <;> try (exfalso; omega)))
      | (show awp _ _ _ _; first | refine goA ?_ | (refine cdG ?_ ?_ <;> intro _ <;> try (exfalso; omega)))
      | (show andThen _ _ _ _; refine goN ?_)
      | (show inBlock _ _ _ _; refine goB ?_)
      | (show retPost _ _ _ _ _; refine finG ?_))
    rfl
theorem okR_of {q : Rat} {k : Nat} (h : okQ k q) (hk : k ≤ 1000000000000) : okR 1000000000000 (rq q) := ⟨Nat.lt_of_lt_of_le (ok_rq h).lm hk, Nat.lt_of_lt_of_le (ok_rq h).ld hk⟩
end Go.Proofs.YtlphlodailailaaGreat

namespace Go.Proofs.YtlphlodailailaaGreat
open Go.Vw
attribute [local irreducible] awp awpL awpR

end Go.Proofs.YtlphlodailailaaGreat

namespace Go.Proofs.YtlphlodailailaaGreat
open Go.Vw
attribute [local irreducible] awp awpL awpR

theorem rational_FromIntQ (v : Int) (h1 : -9223372036854775808 ≤ v) (h2 : v < 9223372036854775808) : Ret Tryz.prog 100 [.int .i64 v] (· = qD (v : Rat)) := by
  have := rational_FromInt v h1 h2
  rw [← rq_int] at this
  exact this
theorem interval_number (x : R3) (h : RatOk x 10000000) : Ret Tryz.prog 163 [rD x] (· = qD (rv x)) := by
  have a := rational_Add x r0 h (ok_r0 (by decide))
  rw [rv_r0, Rat.add_zero] at a
  refine ret_of_awp tab Tryz.func163 rfl rfl (Nat.le_of_ble_eq_true rfl) (fun w0 F0 => ?_)
  repeat' (first
    | (show awpL _ _ _ _ _; first | refine goL ?_ | refine cl 82 tt rfl rfl rfl (hr := a) (k := ?_) | (refine gdLG ?_ ?_ <;> intro _ <;> try (exfalso; omega)))
    | (show awp _ _ _ _; first | refine goA ?_ | (refine cdG ?_ ?_ <;> intro _ <;> try (exfalso; omega)))
    | (show andThen _ _ _ _; refine goN ?_)
    | (show inBlock _ _ _ _; refine goB ?_)
    | (show retPost _ _ _ _ _; refine finG ?_))
  rfl
theorem interval_numberQ (x : Rat) (h : okQ 10000000 x) : Ret Tryz.prog 163 [qD x] (· = qD x) := by
  have := interval_number (rq x) (ok_rq h)
  rw [rv_rq] at this
  exact this
theorem interval_value (a b : R3) (ha : RatOk a 500000) (hb : RatOk b 500000) : Ret Tryz.prog 136 [iD a b] (· = iQ (takeI (rv a) (rv b))) := by
  have h1 := interval_number a (ha.up (by decide))
  have h2 := interval_number b (hb.up (by decide))
  have hc := rational_CompareQ (rv a) (rv b) ((okQ_rv ha (by decide)).mono (by decide)) ((okQ_rv hb (by decide)).mono (by decide))
  have hp := cmpQ_pos (rv a) (rv b)
  generalize rv a = x at *
  generalize rv b = y at *
  obtain ⟨c, hcc⟩ : ∃ c, cmpQ x y = c := ⟨_, rfl⟩
  rw [hcc] at hc hp
  unfold takeI
  by_cases h : y < x
  · have hk := hp.2 h
    clear hp
    rw [if_pos h]
    unfold iQ
    rw [rq_zero]
    refine ret_of_awp tab Tryz.func136 rfl rfl (Nat.le_of_ble_eq_true rfl) (fun w0 F0 => ?_)
    repeat' (first
      | (show awpL _ _ _ _ _; first | refine goL ?_ | refine cl 163 tt rfl rfl rfl (hr := h1) (k := ?_) | refine cl 163 tt rfl rfl rfl (hr := h2) (k := ?_) | refine cl 95 tt rfl rfl rfl (hr := hc) (k := ?_) | (refine gdLG ?_ ?_ <;> intro _ <;> try (exfalso; omega)))
      | (show awp _ _ _ _; first | refine goA ?_ | refine rg 1 5 ?_ | (refine cdG ?_ ?_ <;> intro _ <;> try (exfalso; omega)))
      | (show andThen _ _ _ _; refine goN ?_)
      | (show inBlock _ _ _ _; refine goB ?_)
      | (show awpR _ _ _ _ _ _ _; first | refine goR ?_ | refine clR 163 tt rfl rfl rfl (hr := h1) (k := ?_) | refine clR 163 tt rfl rfl rfl (hr := h2) (k := ?_) | refine clR 95 tt rfl rfl rfl (hr := hc) (k := ?_) | (refine gdRG ?_ ?_ <;> intro _ <;> try (exfalso; omega)))
      | (show retPost _ _ _ _ _; first | refine finF true rfl rfl sc ?_ | refine finF false rfl rfl sc ?_ | refine finC false rfl rfl sc sc ?_ | refine finN rfl rfl sc ?_ | refine finL true rfl rfl sc rfl (LeR.cons rfl leL LeR.nil) ?_ | refine finA true rfl rfl sc ?_ | refine finA false rfl rfl sc ?_ | refine finE true rfl rfl sc ?_ | refine finE false rfl rfl sc ?_))
    exact leL
  · have hk := mt hp.1 h
    clear hp
    rw [if_neg h]
    refine ret_of_awp tab Tryz.func136 rfl rfl (Nat.le_of_ble_eq_true rfl) (fun w0 F0 => ?_)
    repeat' (first
      | (show awpL _ _ _ _ _; first | refine goL ?_ | refine cl 163 tt rfl rfl rfl (hr := h1) (k := ?_) | refine cl 163 tt rfl rfl rfl (hr := h2) (k := ?_) | refine cl 95 tt rfl rfl rfl (hr := hc) (k := ?_) | (refine gdLG ?_ ?_ <;> intro _ <;> try (exfalso; omega)))
      | (show awp _ _ _ _; first | refine goA ?_ | refine rg 1 5 ?_ | (refine cdG ?_ ?_ <;> intro _ <;> try (exfalso; omega)))
      | (show andThen _ _ _ _; refine goN ?_)
      | (show inBlock _ _ _ _; refine goB ?_)
      | (show awpR _ _ _ _ _ _ _; first | refine goR ?_ | refine clR 163 tt rfl rfl rfl (hr := h1) (k := ?_) | refine clR 163 tt rfl rfl rfl (hr := h2) (k := ?_) | refine clR 95 tt rfl rfl rfl (hr := hc) (k := ?_) | (refine gdRG ?_ ?_ <;> intro _ <;> try (exfalso; omega)))
      | (show retPost _ _ _ _ _; refine finG ?_))
    rfl
end Go.Proofs.YtlphlodailailaaGreat

set_option maxHeartbeats 4000000
namespace Go.Proofs.YtlphlodailailaaGreat
open Go.Vw
attribute [local irreducible] awp awpL awpR

theorem interval_hull (x : Rat) (l : List Rat) (hl : l.length < 10000000) (h : ∀ q ∈ x :: l, okQ 2000000 q) : Ret Tryz.prog 137 [qD x, qsD l] (· = iQ (hullL x l)) := by
  have hx : okQ 2000000 x := h x (List.mem_cons_self ..)
  have h' : ∀ q ∈ l, okQ 2000000 q := fun q hq => h q (List.mem_cons_of_mem _ hq)
  refine ret_of_awp tab Tryz.func137 rfl rfl (Nat.le_of_ble_eq_true rfl) (fun w0 F0 => ?_)
  repeat' (first
    | (show awpL _ _ _ _ _; first | refine goL ?_ | (refine gdLG ?_ ?_ <;> intro _ <;> try (exfalso; omega)))
    | (show awp _ _ _ _; first | refine goA ?_ | refine rg 10 5 ?_ | (refine cdG ?_ ?_ <;> intro _ <;> try (exfalso; omega)))
    | (show andThen _ _ _ _; refine goN ?_)
    | (show inBlock _ _ _ _; refine goB ?_)
    | (show awpR _ _ _ _ _ _ _; first | refine goR ?_ | (refine gdRG ?_ ?_ <;> intro _ <;> try (exfalso; omega)))
    | (show retPost _ _ _ _ _; refine finG ?_))
  refine awp_loop1 (fun (i : Nat) => ([(11, .d (qsD l)), (12, .d (.int .i64 l.length)), (13, .d (.int .i64 i)), (4, .ptr 4 0), (5, .ptr 5 0)], [(4, .box 55 zI), (5, .box 55 ((iC (rq ((l.take i).foldl minQ x)) (rq ((l.take i).foldl maxQ x))).map V.d))])) (fun i => i ≤ l.length) (fun i => l.length - i) 0 (by omega) ?_ ?_ (fun i hi => ?_)
  · exact ⟨rfl, rfl, rfl, rfl, rfl, rfl⟩
  · exact ⟨rfl, rfl, trivial⟩
  by_cases h3 : i < l.length
  · have hk := take_ok (k := 2000000) hx h' i
    have hg := getD_ok h' h3
    have e1 := foldl_take minQ x l h3
    have e2 := foldl_take maxQ x l h3
    obtain ⟨y, hy⟩ : ∃ y, l.getD i 0 = y := ⟨_, rfl⟩
    rw [hy] at e1 e2 hg
    obtain ⟨m, hm⟩ : ∃ m, (l.take i).foldl minQ x = m := ⟨_, rfl⟩
    obtain ⟨n, hn⟩ : ∃ n, (l.take i).foldl maxQ x = n := ⟨_, rfl⟩
    rw [hm] at e1
    rw [hn] at e2
    have hk1 := hk.1
    have hk2 := hk.2
    rw [hm] at hk1
    rw [hn] at hk2
    rw [hm, hn]
    have c1 := rational_CompareQ y m (hg.mono (by decide)) (hk1.mono (by decide))
    have c2 := rational_CompareQ y n (hg.mono (by decide)) (hk2.mono (by decide))
    have p1 := cmpQ_neg y m
    have p2 := cmpQ_pos y n
    obtain ⟨u, hu⟩ : ∃ u, cmpQ y m = u := ⟨_, rfl⟩
    obtain ⟨v, hv⟩ : ∃ v, cmpQ y n = v := ⟨_, rfl⟩
    rw [hu] at c1 p1
    rw [hv] at c2 p2
    rw [← hy] at c1 c2
    rw [show minQ m y = if y < m then y else m from rfl] at e1
    rw [show maxQ n y = if n < y then y else n from rfl] at e2
    by_cases b1 : y < m
    · have u1 := p1.2 b1
      rw [if_pos b1] at e1
      by_cases b2 : n < y
      · have v1 := p2.2 b2
        rw [if_pos b2] at e2
        clear p1 p2 hk hm hn
        repeat' (first
          | (show awpL _ _ _ _ _; first | refine goL ?_ | refine cl 95 tt rfl rfl rfl (hr := c1) (k := ?_) | refine cl 95 tt rfl rfl rfl (hr := c2) (k := ?_) | (refine gdLG ?_ ?_ <;> intro _ <;> try (exfalso; omega)))
          | (show awp _ _ _ _; first | refine goA ?_ | refine rg 10 5 ?_ | (refine cdG ?_ ?_ <;> intro _ <;> try (exfalso; omega)))
          | (show andThen _ _ _ _; refine goN ?_)
          | (show inBlock _ _ _ _; refine goB ?_)
          | (show awpR _ _ _ _ _ _ _; first | refine goR ?_ | refine clR 95 tt rfl rfl rfl (hr := c1) (k := ?_) | refine clR 95 tt rfl rfl rfl (hr := c2) (k := ?_) | (refine gdRG ?_ ?_ <;> intro _ <;> try (exfalso; omega)))
          | (show retPost _ _ _ _ _; refine finG ?_))
        exact ⟨i + 1, by omega, by omega, ⟨rfl, rfl, iv (by omega), rfl, rfl, rfl⟩, rfl, by rw [e1, e2, ← hy]; rfl, trivial⟩
      · have v1 := mt p2.1 b2
        rw [if_neg b2] at e2
        clear p1 p2 hk hm hn
        repeat' (first
          | (show awpL _ _ _ _ _; first | refine goL ?_ | refine cl 95 tt rfl rfl rfl (hr := c1) (k := ?_) | refine cl 95 tt rfl rfl rfl (hr := c2) (k := ?_) | (refine gdLG ?_ ?_ <;> intro _ <;> try (exfalso; omega)))
          | (show awp _ _ _ _; first | refine goA ?_ | refine rg 10 5 ?_ | (refine cdG ?_ ?_ <;> intro _ <;> try (exfalso; omega)))
          | (show andThen _ _ _ _; refine goN ?_)
          | (show inBlock _ _ _ _; refine goB ?_)
          | (show awpR _ _ _ _ _ _ _; first | refine goR ?_ | refine clR 95 tt rfl rfl rfl (hr := c1) (k := ?_) | refine clR 95 tt rfl rfl rfl (hr := c2) (k := ?_) | (refine gdRG ?_ ?_ <;> intro _ <;> try (exfalso; omega)))
          | (show retPost _ _ _ _ _; refine finG ?_))
        exact ⟨i + 1, by omega, by omega, ⟨rfl, rfl, iv (by omega), rfl, rfl, rfl⟩, rfl, by rw [e1, e2, ← hy]; rfl, trivial⟩
    · have u1 := mt p1.1 b1
      rw [if_neg b1] at e1
      by_cases b2 : n < y
      · have v1 := p2.2 b2
        rw [if_pos b2] at e2
        clear p1 p2 hk hm hn
        repeat' (first
          | (show awpL _ _ _ _ _; first | refine goL ?_ | refine cl 95 tt rfl rfl rfl (hr := c1) (k := ?_) | refine cl 95 tt rfl rfl rfl (hr := c2) (k := ?_) | (refine gdLG ?_ ?_ <;> intro _ <;> try (exfalso; omega)))
          | (show awp _ _ _ _; first | refine goA ?_ | refine rg 10 5 ?_ | (refine cdG ?_ ?_ <;> intro _ <;> try (exfalso; omega)))
          | (show andThen _ _ _ _; refine goN ?_)
          | (show inBlock _ _ _ _; refine goB ?_)
          | (show awpR _ _ _ _ _ _ _; first | refine goR ?_ | refine clR 95 tt rfl rfl rfl (hr := c1) (k := ?_) | refine clR 95 tt rfl rfl rfl (hr := c2) (k := ?_) | (refine gdRG ?_ ?_ <;> intro _ <;> try (exfalso; omega)))
          | (show retPost _ _ _ _ _; refine finG ?_))
        exact ⟨i + 1, by omega, by omega, ⟨rfl, rfl, iv (by omega), rfl, rfl, rfl⟩, rfl, by rw [e1, e2, ← hy]; rfl, trivial⟩
      · have v1 := mt p2.1 b2
        rw [if_neg b2] at e2
        clear p1 p2 hk hm hn
        repeat' (first
          | (show awpL _ _ _ _ _; first | refine goL ?_ | refine cl 95 tt rfl rfl rfl (hr := c1) (k := ?_) | refine cl 95 tt rfl rfl rfl (hr := c2) (k := ?_) | (refine gdLG ?_ ?_ <;> intro _ <;> try (exfalso; omega)))
          | (show awp _ _ _ _; first | refine goA ?_ | refine rg 10 5 ?_ | (refine cdG ?_ ?_ <;> intro _ <;> try (exfalso; omega)))
          | (show andThen _ _ _ _; refine goN ?_)
          | (show inBlock _ _ _ _; refine goB ?_)
          | (show awpR _ _ _ _ _ _ _; first | refine goR ?_ | refine clR 95 tt rfl rfl rfl (hr := c1) (k := ?_) | refine clR 95 tt rfl rfl rfl (hr := c2) (k := ?_) | (refine gdRG ?_ ?_ <;> intro _ <;> try (exfalso; omega)))
          | (show retPost _ _ _ _ _; refine finG ?_))
        exact ⟨i + 1, by omega, by omega, ⟨rfl, rfl, iv (by omega), rfl, rfl, rfl⟩, rfl, by rw [e1, e2]; rfl, trivial⟩
  · have e : l.take i = l := List.take_of_length_le (by omega)
    rw [e]
    have ho := hullL_ok l x x hx hx h'
    have n1 := interval_numberQ (l.foldl minQ x) (ho.1.mono (by decide))
    have n2 := interval_numberQ (l.foldl maxQ x) (ho.2.mono (by decide))
    unfold hullL
    generalize l.foldl minQ x = m at *
    generalize l.foldl maxQ x = n at *
    repeat' (first
      | (show awpL _ _ _ _ _; first | refine goL ?_ | refine cl 163 tt rfl rfl rfl (hr := n1) (k := ?_) | refine cl 163 tt rfl rfl rfl (hr := n2) (k := ?_) | (refine gdLG ?_ ?_ <;> intro _ <;> try (exfalso; omega)))
      | (show awp _ _ _ _; first | refine goA ?_ | refine rg 10 5 ?_ | (refine cdG ?_ ?_ <;> intro _ <;> try (exfalso; omega)))
      | (show andThen _ _ _ _; refine goN ?_)
      | (show inBlock _ _ _ _; refine goB ?_)
      | (show awpR _ _ _ _ _ _ _; first | refine goR ?_ | refine clR 163 tt rfl rfl rfl (hr := n1) (k := ?_) | refine clR 163 tt rfl rfl rfl (hr := n2) (k := ?_) | (refine gdRG ?_ ?_ <;> intro _ <;> try (exfalso; omega)))
      | (show retPost _ _ _ _ _; refine finG ?_))
    rfl
theorem interval_Hull (a b c d : R3) (ha : RatOk a 500000) (hb : RatOk b 500000) (hc : RatOk c 500000) (hd : RatOk d 500000) : Ret Tryz.prog 98 [iD a b, iD c d] (· = iQ (hullI (takeI (rv a) (rv b)) (takeI (rv c) (rv d)))) := by
  have t1 := interval_value a b ha hb
  have o1 := takeI_ok (k := 500000) (okQ_rv ha (by decide)) (okQ_rv hb (by decide)) (by decide)
  have q1 := takeI_le (rv a) (rv b)
  generalize takeI (rv a) (rv b) = i at *
  obtain ⟨p, q⟩ := i
  obtain ⟨op, oq⟩ := o1
  simp only at op oq q1
  have t2 := interval_value c d hc hd
  have o2 := takeI_ok (k := 500000) (okQ_rv hc (by decide)) (okQ_rv hd (by decide)) (by decide)
  have q2 := takeI_le (rv c) (rv d)
  generalize takeI (rv c) (rv d) = j at *
  obtain ⟨s, t⟩ := j
  obtain ⟨os, ot⟩ := o2
  simp only at os ot q2
  have hh := interval_hull p [q, s, t] (by simp) (by
    intro x hx
    simp only [List.mem_cons, List.not_mem_nil, or_false] at hx
    rcases hx with h | h | h | h <;> rw [h]
    · exact op.mono (by decide)
    · exact oq.mono (by decide)
    · exact os.mono (by decide)
    · exact ot.mono (by decide))
  refine ret_of_awp tab Tryz.func98 rfl rfl (Nat.le_of_ble_eq_true rfl) (fun w0 F0 => ?_)
  repeat' (first
    | (show awpL _ _ _ _ _; first | refine goL ?_ | refine cl 136 tt rfl rfl rfl (hr := t1) (k := ?_) | refine cl 136 tt rfl rfl rfl (hr := t2) (k := ?_) | refine cl 137 tt rfl rfl rfl (hr := hh) (k := ?_) | (refine gdLG ?_ ?_ <;> intro _ <;> try (exfalso; omega)))
    | (show awp _ _ _ _; first | refine goA ?_ | refine rg 1 3 ?_ | (refine cdG ?_ ?_ <;> intro _ <;> try (exfalso; omega)))
    | (show andThen _ _ _ _; refine goN ?_)
    | (show inBlock _ _ _ _; refine goB ?_)
    | (show awpR _ _ _ _ _ _ _; first | refine goR ?_ | refine clR 136 tt rfl rfl rfl (hr := t1) (k := ?_) | refine clR 136 tt rfl rfl rfl (hr := t2) (k := ?_) | refine clR 137 tt rfl rfl rfl (hr := hh) (k := ?_) | (refine gdRG ?_ ?_ <;> intro _ <;> try (exfalso; omega)))
    | (show retPost _ _ _ _ _; refine finG ?_))
  rfl
theorem interval_Mid (a b : R3) (ha : RatOk a 500000) (hb : RatOk b 500000) : Ret Tryz.prog 102 [iD a b] (· = qD (((takeI (rv a) (rv b)).1 + (takeI (rv a) (rv b)).2) / 2)) := by
  have t1 := interval_value a b ha hb
  have o1 := takeI_ok (k := 500000) (okQ_rv ha (by decide)) (okQ_rv hb (by decide)) (by decide)
  have q1 := takeI_le (rv a) (rv b)
  generalize takeI (rv a) (rv b) = i at *
  obtain ⟨p, q⟩ := i
  obtain ⟨op, oq⟩ := o1
  simp only at op oq q1
  have m1 := rational_AddQ p q (op.mono (by decide)) (oq.mono (by decide))
  have m2 := rational_FromIntQ 2 (by decide) (by decide)
  have o2 : okQ 10000000 ((2 : Int) : Rat) := okQ_int (by decide)
  have m3 := rational_DivQ (p + q) ((2 : Int) : Rat) ((op.add oq).mono (by decide)) o2
  rw [if_neg (by decide)] at m3
  refine ret_of_awp tab Tryz.func102 rfl rfl (Nat.le_of_ble_eq_true rfl) (fun w0 F0 => ?_)
  repeat' (first
    | (show awpL _ _ _ _ _; first | refine goL ?_ | refine cl 136 tt rfl rfl rfl (hr := t1) (k := ?_) | refine cl 82 tt rfl rfl rfl (hr := m1) (k := ?_) | refine cl 100 tt rfl rfl rfl (hr := m2) (k := ?_) | refine cl 79 tt rfl rfl rfl (hr := m3) (k := ?_) | (refine gdLG ?_ ?_ <;> intro _ <;> try (exfalso; omega)))
    | (show awp _ _ _ _; first | refine goA ?_ | (refine cdG ?_ ?_ <;> intro _ <;> try (exfalso; omega)))
    | (show andThen _ _ _ _; refine goN ?_)
    | (show inBlock _ _ _ _; refine goB ?_)
    | (show retPost _ _ _ _ _; refine finG ?_))
  rfl
end Go.Proofs.YtlphlodailailaaGreat

namespace Go.Proofs.YtlphlodailailaaGreat
open Go.Vw
attribute [local irreducible] awp awpL awpR

end Go.Proofs.YtlphlodailailaaGreat

set_option maxHeartbeats 4000000
namespace Go.Proofs.YtlphlodailailaaGreat
open Go.Vw
attribute [local irreducible] awp awpL awpR

theorem ref03_SameQ (x y : Rat) (hx : okQ 1000000000000 x) (hy : okQ 1000000000000 y) : Ret Tryz.prog 29 [qD x, qD y] (· = .bool (decide (x = y))) := by
  have := ref03_Same (rq x) (rq y) (okR_of hx (by decide)) (okR_of hy (by decide))
  rw [show decide (rq x = rq y) = decide (x = y) from decide_eq_decide.2 ⟨rq_inj, fun h => by rw [h]⟩] at this
  exact this
end Go.Proofs.YtlphlodailailaaGreat

set_option maxHeartbeats 4000000
namespace Go.Proofs.YtlphlodailailaaGreat
open Go.Vw
attribute [local irreducible] awp awpL awpR

end Go.Proofs.YtlphlodailailaaGreat

namespace Go.Proofs.YtlphlodailailaaGreat
open Go.Vw
attribute [local irreducible] awp awpL awpR

theorem ref03_TakeL (l : List R3) (hl : l.length < 10000000000) (h : ∀ r ∈ l, RatOk r 100000000) : Ret Tryz.prog 90 [rsD l] (· = qsD (l.map rv)) := by
  refine ret_of_awp tab Tryz.func90 rfl rfl (Nat.le_of_ble_eq_true rfl) (fun w0 F0 => ?_)
  repeat' (first
    | (show awpL _ _ _ _ _; first | refine goL ?_ | (refine gdLG ?_ ?_ <;> intro _ <;> try (exfalso; omega)))
    | (show awp _ _ _ _; first | refine goA ?_ | (refine cdG ?_ ?_ <;> intro _ <;> try (exfalso; omega)))
    | (show andThen _ _ _ _; refine goN ?_)
    | (show inBlock _ _ _ _; refine goB ?_)
    | (show retPost _ _ _ _ _; refine finG ?_))
  refine awp_adopt 3 100 29 3 qC 0 rfl ?_
  refine awp_loop1 (fun (i : Nat) => ([(0, .d (rsD l)), (3, .own 100 0 ((l.map rv).take i).length 29 3), (4, .d (.int .i64 i))], [(100, .data 29 3 qC 0 ((l.map rv).take i))])) (fun i => i ≤ l.length) (fun i => l.length - i) 0 (by omega) ⟨rfl, rfl, rfl, rfl⟩ ⟨rfl, trivial⟩ (fun i hi => ?_)
  have hlen : ((l.map rv).take i).length = i := by simp; omega
  by_cases h3 : i < l.length
  · have g1 : l.getD i r0 ∈ l := by rw [List.getD, List.getElem?_eq_getElem h3]; exact List.getElem_mem h3
    have ht := ref03_Take _ (h _ g1)
    have e : (l.map rv).take i ++ [rv (l.getD i r0)] = (l.map rv).take (i + 1) := by
      rw [List.take_add_one]
      simp [h3, List.getD, List.getElem?_eq_getElem h3]
    repeat' (first
      | (show awpL _ _ _ _ _; first | refine goL ?_ | refine cl 85 tt rfl rfl rfl (hr := ht) (k := ?_) | (refine gdLG ?_ ?_ <;> intro _ <;> try (exfalso; omega)))
      | (show awp _ _ _ _; first | refine goA ?_ | (refine cdG ?_ ?_ <;> intro _ <;> try (exfalso; omega)))
      | (show andThen _ _ _ _; refine goN ?_)
      | (show inBlock _ _ _ _; refine goB ?_)
      | (show retPost _ _ _ _ _; refine finG ?_))
    exact ⟨i + 1, by omega, by omega, ⟨rfl, by rw [← e]; rfl, iv (by omega), rfl⟩, by rw [← e]; rfl, trivial⟩
  · have : i = l.length := by omega
    subst this
    repeat' (first
      | (show awpL _ _ _ _ _; first | refine goL ?_ | (refine gdLG ?_ ?_ <;> intro _ <;> try (exfalso; omega)))
      | (show awp _ _ _ _; first | refine goA ?_ | (refine cdG ?_ ?_ <;> intro _ <;> try (exfalso; omega)))
      | (show andThen _ _ _ _; refine goN ?_)
      | (show inBlock _ _ _ _; refine goB ?_)
      | (show retPost _ _ _ _ _; refine finG ?_))
    rw [List.take_of_length_le (by simp)]

end Go.Proofs.YtlphlodailailaaGreat

/-
  Ranges over functions: code within a round, iterators, callers. Conditions: the table of types is the program's.
-/
namespace Go.Vw
open Go.RowKit

def wf (ro : Option Nat) : Fence := { fn := fun _ => True, depth := none, alive := false, round := ro }
def noDef (ops : List Oper) : Bool := ops.all fun o => match o.op with | .defer _ => false | _ => true
theorem noDef_of {ops : List Oper} (h : noDef ops = true) {o : Oper} (ho : o ∈ ops) : ∀ c, o.op ≠ .defer c := fun c e => by
  have := List.all_eq_true.1 h o ho
  rw [e] at this; cases this
def plainOp (o : Oper) : Bool := match o.op with | .move _ | .assign _ | .load _ _ | .store _ _ _ => true | _ => false
section
variable {ro : Option Nat} {n : Nat} {P : Program} {all : Array Oper} {o : Oper} {a : Act} {w : World} {K K' : Act → World → Prop} {Q Q' : Exit → Act → World → Prop}
theorem calls_in {f : FuncId} {vs : Array Value} {R R' : Ending → World → Prop} (h : Calls P f vs w R) (hr : ∀ e w', R e w' → R' e w') : CallsIn (wf ro) n P f vs w R' :=
  CallsIn.mono (show CallsIn Fence.wide n P f vs w R from callsIn_wide.2 h) hr
theorem oper_in (m : List Deferred) (hm : m = [] ∨ plainOp o = true) (hd : ∀ c, o.op ≠ .defer c) (hK : ∀ a w, K a w → K' { a with defers := m ++ a.defers } w) (hQ : ∀ e a w, e ≠ .normal → Q e a w → Q' e { a with defers := m ++ a.defers } w) (h : o.wp P a w K Q) : o.wpIn (wf ro) n P { a with defers := m ++ a.defers } w K' Q' := by
  unfold Oper.wp at h
  unfold Oper.wpIn
  refine ⟨fun f _ => trivial, ?_⟩
  rw [show (wf ro).round = ro from rfl, Oper.semAt_eq ro _ o hd]
  have hev : ({ a with defers := m ++ a.defers } : Act).eval = a.eval := rfl
  rw [hev]
  have hput : ∀ v, ({ a with defers := m ++ a.defers } : Act).put o.dst v = { (a.put o.dst v) with defers := m ++ (a.put o.dst v).defers } := fun v => by
    cases o.dst <;> rfl
  have hlo : LetsOut Q → LetsOut Q' := fun ⟨a, w, h⟩ => ⟨_, w, hQ _ _ _ (by simp) h⟩
  have hnd : ∀ d w', plainOp o = true → (execOp a.eval o).run P w ≠ .ok (.defer d) w' := fun d w' hp e => by
    obtain ⟨dst, op, ty, pos, after, g⟩ := o
    unfold plainOp at hp
    cases op <;> simp only at hp <;> first | cases hp | skip
    all_goals simp only [execOp, Sem.run_bind, Sem.run_pure] at e
    · cases e
    · cases e
    · rename_i t x
      cases h2 : (Instr.loadAt t (a.eval x)).run P w <;> rw [h2] at e <;> simp [Result.andThen] at e
    · rename_i t x y
      cases h2 : (Instr.storeAt t (a.eval x) (a.eval y)).run P w <;> rw [h2] at e <;> simp [Result.andThen] at e
  generalize hr : (execOp a.eval o).run P w = r at *
  cases r with
  | ok x w' =>
    cases x with
    | value v => simp only [Oper.upon, Oper.uponIn] at h ⊢; rw [hput]; exact hK _ _ h
    | skip => simp only [Oper.upon, Oper.uponIn] at h ⊢; rw [hput]; exact hK _ _ h
    | defer d =>
      rcases hm with rfl | hp
      · simp only [Oper.upon, Oper.uponIn] at h ⊢
        exact hK _ _ h
      · exact absurd rfl (hnd d w' hp)
    | enter f args =>
      simp only [Oper.upon, Oper.uponIn] at h ⊢
      refine ⟨fun h => by simp [wf] at h, calls_in h fun e w'' he => ?_⟩
      cases e with
      | returned v => simp only at he ⊢; rw [hput]; exact hK _ _ he
      | panicked chain => exact hQ _ _ _ (by simp) he
      | outgrown => exact hlo he
    | row row args =>
      simp only [Oper.upon, Oper.uponIn] at h ⊢
      refine ⟨fun h => by simp [wf] at h, fun c cs hr => ?_⟩
      obtain ⟨v, w2, q, st⟩ := h c cs
      refine ⟨v, w2, ?_, (show StepsIn (Machine.fenced P Fence.wide) P _ _ from stepsIn_wide.2 st)⟩
      show K' _ _
      rw [hput]; exact hK _ _ q
    | _ => simp only [Oper.upon] at h
  | halt x w' => cases x <;> simp only [Oper.upon, Oper.uponIn] at h ⊢ <;> first | exact h.elim | exact hQ _ _ _ (by simp) h
abbrev Act.mk' (m : List Deferred) (a : Act) : Act := { a with defers := m ++ a.defers }
theorem put_mk (m : List Deferred) (a : Act) (d : Option Tmp) (v : Value) : Act.put (Act.mk' m a) d v = Act.mk' m (a.put d v) := by cases d <;> rfl
theorem list_in (m : List Deferred) {l2 : List Oper} : ∀ (l1 : List Oper), (∀ o ∈ l1, (∀ c, o.op ≠ .defer c) ∧ (m = [] ∨ plainOp o = true)) → ∀ (a : Act) (w : World), (∀ a w, Q .normal a w → wpListIn (wf ro) n P all Q' l2 (Act.mk' m a) w) → (∀ e a w, e ≠ .normal → Q e a w → Q' e (Act.mk' m a) w) → ¬ LetsOut Q → wpList P all Q l1 a w → wpListIn (wf ro) n P all Q' (l1 ++ l2) (Act.mk' m a) w
  | [], _, a, w, h2, _, _, h => h2 _ _ h
  | o :: l1, hd, a, w, h2, hQ, hlo, h => by
    simp only [wpList] at h
    simp only [List.cons_append, wpListIn]
    split at h
    · rename_i hw
      rw [if_pos hw]
      rcases h with h | ⟨_, h⟩
      · exact oper_in m (hd o (by simp)).2 (hd o (by simp)).1 (fun a w hk => list_in m l1 (fun o ho => hd o (by simp [ho])) a w h2 hQ hlo hk) hQ h
      · exact absurd h hlo
    · rename_i hw
      rw [if_neg hw, put_mk]
      exact ⟨fun f _ => trivial, list_in m l1 (fun o ho => hd o (by simp [ho])) _ w h2 hQ hlo h⟩
theorem op_in (hd : ∀ o ∈ all.toList, ∀ c, o.op ≠ .defer c) (hlo : ¬ LetsOut Q) {i : Nat} (hK : ∀ a w, K a w → K' a w) (h : wpOp P all Q i K a w) : wpOpIn (wf ro) n P all Q i K' a w := by
  unfold wpOp at h
  unfold wpOpIn
  split
  · rename_i ho; rw [ho] at h; exact hK _ _ h
  · rename_i o ho
    rw [ho] at h
    simp only at h
    split at h
    · rename_i hw
      rw [if_pos hw]
      rcases h with h | ⟨_, h⟩
      · exact oper_in (K' := K') (Q' := Q) [] (.inl rfl) (hd o (by rw [Array.mem_toList_iff]; exact Array.mem_of_getElem? ho)) (fun a w hk => hK _ _ hk) (fun _ _ _ _ h => h) h
      · exact absurd h hlo
    · rename_i hw
      rw [if_neg hw]
      exact ⟨fun f _ => trivial, hK _ _ h⟩
theorem any_in {md : Region.Mode} (hd : ∀ o ∈ all.toList, ∀ c, o.op ≠ .defer c) (hlo : ¬ LetsOut Q) : ∀ (fuel : Nat) (listed : Array Bool) (a : Act) (w : World), wpAny P md all Q fuel listed a w → wpAnyIn (wf ro) n P md all Q fuel listed a w
  | 0, _, _, _, h => h
  | fuel + 1, listed, a, w, h => ⟨h.1, fun i hi => op_in hd hlo (fun a w hk => any_in hd hlo fuel _ a w hk) (h.2 i hi)⟩
end

theorem operIn_post {ro : Option Nat} {n : Nat} {P : Program} {o : Oper} {a : Act} {w : World} {K K' : Act → World → Prop} {Q Q' : Exit → Act → World → Prop} (hK : ∀ a w, K a w → K' a w) (hQ : ∀ e a w, Q e a w → Q' e a w) (h : o.wpIn (wf ro) n P a w K Q) : o.wpIn (wf ro) n P a w K' Q' := by
  unfold Oper.wpIn at *
  refine ⟨h.1, ?_⟩
  have h := h.2
  have hlo : LetsOut Q → LetsOut Q' := fun ⟨a, w, h⟩ => ⟨_, w, hQ _ _ _ h⟩
  generalize (o.semAt (wf ro).round a.eval).run P w = r at *
  cases r with
  | ok x w' =>
    cases x <;> simp only [Oper.uponIn] at h ⊢ <;>
      first
        | exact hK _ _ h
        | exact ⟨h.1, CallsIn.mono h.2 (fun e w'' he => by cases e <;> first | exact hK _ _ he | exact hQ _ _ _ he | exact hlo he)⟩
        | exact ⟨h.1, RowsIn.mono h.2 (fun _ _ he => hK _ _ he)⟩
        | exact ⟨h.1, RoundIn.mono h.2 (fun e w'' he => by cases e <;> first | exact hK _ _ he | exact hQ _ _ _ he | exact hlo he)⟩
  | halt x w' => cases x <;> simp only [Oper.uponIn] at h ⊢ <;> first | exact h | exact hQ _ _ _ h
theorem wpAnyIn_post {ro : Option Nat} {n : Nat} {P : Program} {md : Region.Mode} {all : Array Oper} {Q Q' : Exit → Act → World → Prop} (hQ : ∀ e a w, Q e a w → Q' e a w) : ∀ (fuel : Nat) (listed : Array Bool) (a : Act) (w : World), wpAnyIn (wf ro) n P md all Q fuel listed a w → wpAnyIn (wf ro) n P md all Q' fuel listed a w
  | 0, _, _, _, h => ⟨h.1, hQ _ _ _ h.2⟩
  | fuel + 1, listed, a, w, h => ⟨fun e => hQ _ _ _ (h.1 e), fun i hi => by
    have := h.2 i hi
    unfold wpOpIn at *
    split
    · rename_i ho; rw [ho] at this; exact wpAnyIn_post hQ fuel _ a w this
    · rename_i o ho
      rw [ho] at this
      simp only at this
      split at this
      · rename_i hw; rw [if_pos hw]; exact operIn_post (fun a w h => wpAnyIn_post hQ fuel _ a w h) hQ this
      · rename_i hw; rw [if_neg hw]; exact ⟨this.1, wpAnyIn_post hQ fuel _ _ w this.2⟩⟩

/-! ## The walk within a fence -/

def liftM (m : List Deferred) (X : Ctx) (Q : Exit → St → Prop) : Exit → Act → World → Prop := fun e a w => ∃ a0, a = Act.mk' m a0 ∧ lift X Q e a0 w
def awpI (ro : Option Nat) (m : List Deferred) (X : Ctx) (c : Code) (Q : Exit → St → Prop) (s : St) : Prop := ∀ n io F a w, SR X io F s a w → c.wpIn (wf ro) n X.P (liftM m X Q) (Act.mk' m a) w
def awpLI (ro : Option Nat) (X : Ctx) (all : Array Oper) (l : List Oper) (Q : Exit → St → Prop) (s : St) : Prop := ∀ n io F a w, SR X io F s a w → wpListIn (wf ro) n X.P all (liftM [] X Q) l a w
def NoOut (Q : Exit → St → Prop) : Prop := ∀ s, ¬ Q .outgrown s
theorem NoOut.then {K : St → Prop} {Q : Exit → St → Prop} (h : NoOut Q) : NoOut (andThen K Q) := fun s hs => h s hs
theorem NoOut.block {id : Nat} {Q : Exit → St → Prop} (h : NoOut Q) : NoOut (inBlock id Q) := fun s hs => h s hs
theorem NoOut.none : NoOut (fun _ _ => False) := fun _ h => h
theorem noLets {X : Ctx} {Q : Exit → St → Prop} (h : NoOut Q) : ¬ LetsOut (lift X Q) := fun ⟨a, w, s, io, F, hq, _⟩ => h s hq
def split' (K : St → Prop) : Exit → St → Prop := andThen K (fun _ _ => False)
section
variable {ro : Option Nat} {m : List Deferred} {X : Ctx} {Q : Exit → St → Prop} {s : St}
theorem awpI_seq {x y : Code} (h : awpI ro m X x (andThen (awpI ro m X y Q) Q) s) : awpI ro m X (.seq x y) Q s := fun n io F a w hs =>
  wpIn_seq (wpIn_mono (h n io F a w hs) fun e a w ⟨a0, ea, s', io', F', hq, hs'⟩ => by
    subst ea
    cases e <;> first | exact hq _ _ _ _ _ hs' | exact ⟨a0, rfl, s', io', F', hq, hs'⟩)
theorem awpI_skip (h : Q .normal s) : awpI ro m X .skip Q s := fun n io F a _ hs => wpIn_skip ⟨a, rfl, s, io, F, h, hs⟩
theorem awpI_ret (h : Q .ret s) : awpI ro m X .ret Q s := fun n io F a _ hs => wpIn_ret ⟨a, rfl, s, io, F, h, hs⟩
theorem awpI_exit {id : Nat} (h : Q (.exit id) s) : awpI ro m X (.exit id) Q s := fun n io F a _ hs => wpIn_exit ⟨a, rfl, s, io, F, h, hs⟩
theorem awpI_block {id : Nat} {c : Code} (h : awpI ro m X c (inBlock id Q) s) : awpI ro m X (.block id c) Q s := fun n io F a w hs =>
  wpIn_block (wpIn_mono (h n io F a w hs) fun e a w ⟨a0, ea, s', io', F', hq, hs'⟩ => by
    subst ea
    cases e with
    | exit n =>
      simp only [inBlock, Exit.inBlock] at hq ⊢
      split <;> rename_i h
      · subst h; simp only [Nat.beq_refl] at hq; exact ⟨a0, rfl, s', io', F', hq, hs'⟩
      · have : Nat.beq n id = false := beq_of_ne h
        rw [this] at hq; exact ⟨a0, rfl, s', io', F', hq, hs'⟩
    | normal => exact ⟨a0, rfl, s', io', F', hq, hs'⟩
    | goto l => exact ⟨a0, rfl, s', io', F', hq, hs'⟩
    | ret => exact ⟨a0, rfl, s', io', F', hq, hs'⟩
    | panic c => exact ⟨a0, rfl, s', io', F', hq, hs'⟩
    | outgrown => exact ⟨a0, rfl, s', io', F', hq, hs'⟩)
theorem awpI_cond {c : Operand} {x y : Code} {t : Bool} (hc : s.opd c = .d (.bool t)) (h1 : t = true → awpI ro m X x Q s) (h2 : t = false → awpI ro m X y Q s) : awpI ro m X (.cond c x y) Q s := fun n io F a w hs => by
  have := hs.opd c
  rw [hc] at this
  simp only [VR, DR] at this
  have hev : (Act.mk' m a).eval c = .bool t := this
  exact wpIn_cond_split hev (fun e => h1 e _ _ _ _ _ hs) (fun e => h2 e _ _ _ _ _ hs)
theorem awpI_region {id : Nat} {l : List Oper} (h : awpL X l.toArray l Q s) (hQ : NoOut Q) (hd : noDef l = true := by rfl) (hm : m = [] ∨ l.all plainOp = true := by first | exact .inl rfl | exact .inr rfl) : awpI ro m X (.region id l.toArray false) Q s := fun n io F a w hs => by
  refine wpIn_region_lit ?_
  have := list_in (ro := ro) (n := n) (all := l.toArray) (Q' := liftM m X Q) m (l2 := []) l (fun o ho => ⟨noDef_of hd ho, hm.imp (fun h => h) fun h => List.all_eq_true.1 h o ho⟩) a w (fun a w h => wpListIn_nil ⟨a, rfl, h⟩) (fun e a w _ h => ⟨a, rfl, h⟩) (noLets hQ) (h io F a w hs)
  rwa [List.append_nil] at this
theorem awpI_parts {id : Nat} (l1 l2 : List Oper) (h : awpL X (l1 ++ l2).toArray l1 (split' (awpLI ro X (l1 ++ l2).toArray l2 Q)) s) (hd : noDef l1 = true := by rfl) : awpI ro [] X (.region id (l1 ++ l2).toArray false) Q s := fun n io F a w hs => by
  refine wpIn_region_lit ?_
  exact list_in (ro := ro) (n := n) (all := (l1 ++ l2).toArray) (Q' := liftM [] X Q) [] (l2 := l2) l1 (fun o ho => ⟨noDef_of hd ho, .inl rfl⟩) a w (fun a w ⟨s', io', F', hq, hs'⟩ => hq n io' F' a w hs') (fun e a w hne ⟨s', io', F', hq, hs'⟩ => by cases e <;> first | (exact absurd rfl hne) | exact hq.elim) (noLets NoOut.none.then) (h io F a w hs)
theorem awpLI_all {all : Array Oper} {l : List Oper} (h : awpL X all l Q s) (hQ : NoOut Q) (hd : noDef l = true := by rfl) : awpLI ro X all l Q s := fun n io F a w hs => by
  have := list_in (ro := ro) (n := n) (all := all) (Q' := liftM [] X Q) [] (l2 := []) l (fun o ho => ⟨noDef_of hd ho, .inl rfl⟩) a w (fun a w h => wpListIn_nil ⟨a, rfl, h⟩) (fun e a w _ h => ⟨a, rfl, h⟩) (noLets hQ) (h io F a w hs)
  rwa [List.append_nil] at this
theorem awpI_any {id : Nat} {ops : List Oper} (hm : X.P.follows .mixedOrders = true) (h : regAny X ops Q s) (hQ : NoOut Q) (hd : noDef ops = true) : awpI ro [] X (.region id ops.toArray true) Q s := fun n io F a w hs => by
  refine wpIn_region_any hm ?_
  have := any_in (ro := ro) (n := n) (all := ops.toArray) (fun o ho => noDef_of hd (by simpa using ho)) (noLets hQ) _ _ _ _ (h io F a w hs)
  exact wpAnyIn_post (fun e a w h => ⟨a, rfl, h⟩) _ _ _ _ this
end

/-! ## A loop within a fence -/
theorem awpI_loop1 {ro : Option Nat} {α : Type} {X : Ctx} {c : Code} {Q : Exit → St → Prop} {s : St} (st : α → List (Nat × V) × List (Nat × Blk)) (I : α → Prop) (mu : α → Nat) (x0 : α) (h0 : I x0) (ht : AllT s (st x0).1) (hb : AllB s (st x0).2)
    (round : ∀ x, I x → awpI ro [] X c (andThen (fun s' => ∃ y, I y ∧ mu y < mu x ∧ AllT s' (st y).1 ∧ AllB s' (st y).2) Q) (St.of (st x).1 (st x).2)) (hc : ∀ x, (coverT (st x).2 (st x).1 && coverB (st x).2 (st x).2) = true := by exact fun _ => rfl) : awpI ro [] X (.loop c) Q s := by
  intro n io F a w hs b k cs hro hb' hr
  have key : ∀ n' x io F a w, mu x = n' → I x → SR X io F (St.of (st x).1 (st x).2) a w → ∃ e a' w', liftM [] X Q e a' w' ∧ ArrivesIn (Machine.fenced X.P (wf ro)) X.P (lone (b.atR a (.code c :: .inLoop c :: k)) cs w) b k cs e a' w' := by
    intro n'
    induction n' using Nat.strongRecOn with
    | _ n' ih =>
      intro x io F a w hn hI hs
      obtain ⟨e, a₁, w₁, ⟨a0, ea, s₁, io₁, F₁, hq, hs₁⟩, harr⟩ := round x hI n io F a w hs b (.inLoop c :: k) cs hro hb' hr
      have ea : a₁ = a0 := ea
      subst ea
      cases e with
      | normal =>
        obtain ⟨y, hI₁, hlt, hty, hby⟩ := hq
        obtain ⟨e₂, a₂, w₂, hq₂, harr₂⟩ := ih (mu y) (hn ▸ hlt) y io₁ F₁ a₁ w₁ rfl hI₁ (hs₁.slots hty hby (hc y))
        exact ⟨e₂, a₂, w₂, hq₂, .of_steps (StepsIn.trans harr (.one (fenced_calm hb' hr rfl) stepR_inLoop)) harr₂⟩
      | exit id => exact ⟨_, a₁, w₁, ⟨a₁, rfl, s₁, io₁, F₁, hq, hs₁⟩, .pass (x := .inLoop c) rfl (fun _ _ => .inl (by simp)) harr⟩
      | goto l => exact ⟨_, a₁, w₁, ⟨a₁, rfl, s₁, io₁, F₁, hq, hs₁⟩, .pass (x := .inLoop c) rfl (fun _ _ => .inl (by simp)) harr⟩
      | ret => exact ⟨_, a₁, w₁, ⟨a₁, rfl, s₁, io₁, F₁, hq, hs₁⟩, .pass (x := .inLoop c) rfl (fun _ _ => .inl (by simp)) harr⟩
      | panic ch => exact ⟨_, a₁, w₁, ⟨a₁, rfl, s₁, io₁, F₁, hq, hs₁⟩, .pass (x := .inLoop c) rfl (fun _ _ => .inl (by simp)) harr⟩
      | outgrown => exact ⟨_, a₁, w₁, ⟨a₁, rfl, s₁, io₁, F₁, hq, hs₁⟩, .pass (x := .inLoop c) rfl (fun _ _ => .inl (by simp)) harr⟩
  obtain ⟨e, a', w', hq, harr⟩ := key _ x0 io F a w rfl h0 (hs.slots ht hb (hc x0))
  exact ⟨e, a', w', hq, .of_steps (.one (fenced_calm hb' hr rfl) stepR_loop) harr⟩

/-! ## Rounds, as they are asked for -/

def YieldC (P : Program) (L : Nat) (A0 F0 : Nat → Prop) (w0 : World) (io0 : Nat → Option Nat) (xs : List V) (bs bs' : List (Nat × Blk)) : Prop :=
  ∀ io F w (vs : Array Value), Kept A0 w0 w → (∀ b, F0 b → F b) → (∀ b, F b → b < w.heap.size ∧ (F0 b ∨ w0.heap.size ≤ b ∨ A0 b)) → (∀ k, lookB bs k ≠ none → io k = io0 k) → vs.size = xs.length → VRT ⟨io, lnO (lookB bs)⟩ F w (fun i => vs[i]?) 0 xs → BsR (OwnA (lookB bs) io) w.heap.size io F w (lookB bs) →
    ∃ fn tmps assign body, (Instr.yield L vs).run P w = .ok (.round L fn tmps assign body) w ∧ ∀ n, RoundIn Fence.wide n P L fn tmps assign body w fun e w' => e = .returned (.bool true) ∧ ∃ io' F', Kept (OwnA (lookB bs) io) w w' ∧ (∀ b, F b → F' b) ∧ (∀ b, F' b → b < w'.heap.size ∧ (F b ∨ w.heap.size ≤ b ∨ OwnA (lookB bs) io b)) ∧ (∀ k, lookB bs k ≠ none → io' k = io k) ∧ BsR (OwnA (lookB bs) io) w.heap.size io' F' w' (lookB bs')

section
variable {X : Ctx} {all : Array Oper} {s : St} {o : Oper} {rest : List Oper} {Q : Exit → St → Prop} {c : Call}
theorem run_yieldOp {P : Program} {ev : Operand → Value} {w : World} {y : Operand} {L : Nat} (hop : o.op = .call c) (hcal : c.callee = .value y) (hev : ev y = .func (.yield L) #[] #[]) : (execOp ev o).run P w = (Instr.yield L (c.args.map ev)).run P w := by
  obtain ⟨dst, op, ty, pos, after, g⟩ := o
  cases hop
  simp [execOp, resolve, hcal, hev, Deferred.ofValue, invoke]
theorem lI_yield {y : Operand} {L : Nat} {d : Tmp} {xs : List V} {bs bs' : List (Nat × Blk)} (hY : YieldC X.P L X.A X.F0 X.w0 X.io0 xs bs bs') (hg : gd all s o = some true) (hop : o.op = .call c) (hcal : c.callee = .value y) (hy : s.opd y = .d (.raw (.func (.yield L) #[] #[]))) (hdst : o.dst = some d) (hd : dstOk X.N (some d) = true) (le : LeVT (c.args.toList.map s.opd) xs) (hB : AllB s bs) (hKs : ∀ k, lookB bs k ≠ none → k ∈ X.K) (hxr : ∀ k ∈ V.refsL xs, lookB bs k ≠ none) (hBr : ∀ k b, lookB bs k = some b → ∀ j ∈ b.refs, lookB bs j ≠ none) (hBr' : ∀ k b, lookB bs' k = some b → ∀ j ∈ b.refs, lookB bs' j ≠ none) (hkeep : ∀ k, lookB bs k ≠ none ↔ lookB bs' k ≠ none) (hln : ∀ k, lookB bs k ≠ none → lnO (lookB bs) k ≤ lnO (lookB bs') k) (k : awpLI none X all rest Q ((s.over bs').put (some d) (.d (.bool true)))) : awpLI none X all (o :: rest) Q s := fun n io F a w hs => by
  have hBs : ∀ k b, lookB bs k = some b → s.blk k = some b := fun k b hk => (lookB_of hB k b hk).1
  have hev := hs.opd y
  rw [hy] at hev
  simp only [VR, DR] at hev
  have hargs : VRT (s.keys io) F w (fun i => (c.args.map a.eval)[i]?) 0 (c.args.toList.map s.opd) := by
    rw [VRT_iff]
    intro i x hx
    simp only [List.getElem?_map, Option.map_eq_some_iff] at hx
    obtain ⟨p, hp, rfl⟩ := hx
    refine ⟨a.eval p, ?_, hs.opd p⟩
    have hp' : c.args[i]? = some p := by simpa using hp
    simp [Array.getElem?_map, hp']
  have hlnB : ∀ k, lookB bs k ≠ none → s.ln k ≤ lnO (lookB bs) k := fun k hk => by
    obtain ⟨b, hb⟩ := Option.ne_none_iff_exists'.1 hk
    rw [lnO_of hb, ln_of (hBs k b hb)]; exact Nat.le_refl _
  have hargs2 : VRT ⟨io, lnO (lookB bs)⟩ F w (fun i => (c.args.map a.eval)[i]?) 0 xs := VRT.agree (io := s.keys io) _ _ _ (fun k hk => ⟨rfl, hlnB k (hxr k hk)⟩) (le.2 _ _ _ _ _ hargs)
  obtain ⟨fn, tmps, assign, body, h1, h2⟩ := hY io F w (c.args.map a.eval) hs.kept hs.f0 hs.ff (fun k hk => hs.st k (hKs k hk)) (by rw [le.1]; simp) hargs2 (hs.lendB hBs hBr)
  simp only [wpListIn]
  rw [if_pos (gd_sound (fun t _ => hs.tm t) hg)]
  unfold Oper.wpIn
  refine ⟨fun f _ => trivial, ?_⟩
  rw [show (wf none).round = none from rfl, Oper.semAt_none, run_yieldOp hop hcal hev, h1]
  simp only [Oper.uponIn]
  refine ⟨fun h => by simp [wf] at h, RoundIn.mono (h2 (n - 1)) fun e w' ⟨he, io', F', g1, g2, g3, g4, g6⟩ => ?_⟩
  subst he
  obtain ⟨key, _⟩ := hs.afterB [] hBs (fun k hk => (hkeep k).1 hk) hln hBr' (fun k hk => .inl ((hkeep k).2 hk)) (fun k hk => by simp at hk) g1 g2 g3 g4 g6
  have hp := key.put (dst := some d) (x := .d (.bool true)) (v := .bool true) (dstOk_sound hd) (by simp only [VR, DR])
  rw [hdst]
  exact k n _ _ _ _ hp
end

/-! ## Iterators -/
theorem lookB_keys : ∀ {bs : List (Nat × Blk)} {j : Nat}, lookB bs j ≠ none ↔ j ∈ bs.map (·.1)
  | [], j => by simp [lookB]
  | (k, b) :: r, j => by
    simp only [lookB, List.map_cons, List.mem_cons]
    by_cases e : j = k
    · subst e; simp
    · rw [beq_of_ne e]; simp only [cond_false, e, false_or]; exact lookB_keys
structure BsFam (bs : Nat → List (Nat × Blk)) (ks : List Nat) : Prop where
  keys : ∀ k, (bs k).map (·.1) = ks
  cov : ∀ k, coverR (bs k) (bs k) = true
  covB : ∀ k, coverB (bs k) (bs k) = true
  own : ∀ k, AllB (St.of [] (bs k)) (bs k)
  ln : ∀ k, LnLe (bs (k + 1)) (bs k)
theorem allB_blk {s s' : St} : ∀ {l : List (Nat × Blk)}, (∀ k, hasKey l k = true → s'.blk k = s.blk k) → AllB s l → AllB s' l
  | [], _, _ => trivial
  | (k, b) :: r, h, hb => ⟨(h k (by simp [hasKey, lookB])).trans hb.1, allB_blk (fun j hj => h j (by
    unfold hasKey at *
    simp only [lookB]
    cases Nat.beq j k <;> simp_all)) hb.2⟩
theorem BsFam.of {bs : Nat → List (Nat × Blk)} {ks : List Nat} (h : BsFam bs ks) {k : Nat} {s : St} (hs : s.blk = lookB (bs k)) : AllB s (bs k) := allB_blk (s := St.of [] (bs k)) (fun j _ => by rw [hs]; rfl) (h.own k)
theorem BsFam.over {bs : Nat → List (Nat × Blk)} {ks : List Nat} (h : BsFam bs ks) {k : Nat} {s : St} : AllB (s.over (bs k)) (bs k) := allB_blk (s := St.of [] (bs k)) (fun j hj => by
  unfold hasKey at hj
  simp only [St.over, St.of]
  split at hj
  · rename_i b hb; rw [hb]
  · cases hj) (h.own k)
theorem BsFam.same {bs : Nat → List (Nat × Blk)} {ks : List Nat} (h : BsFam bs ks) {k : Nat} {s s' : St} (hs : s'.blk = (s.over (bs k)).blk) : AllB s' (bs k) := allB_blk (s := s.over (bs k)) (fun j _ => congrFun hs j) h.over
theorem lnLe_lnO {bs bs' : List (Nat × Blk)} (h : LnLe bs' bs) {k : Nat} (hk : lookB bs k ≠ none) : lnO (lookB bs) k ≤ lnO (lookB bs') k := by
  obtain ⟨b, hb⟩ := Option.ne_none_iff_exists'.1 hk
  rw [lnO_of hb]
  exact LnLe_spec h _ (lookB_mem hb)
theorem BsFam.has {bs : Nat → List (Nat × Blk)} {ks : List Nat} (h : BsFam bs ks) (k j : Nat) : lookB (bs k) j ≠ none ↔ j ∈ ks := by rw [lookB_keys, h.keys]
theorem BsFam.lnO {bs : Nat → List (Nat × Blk)} {ks : List Nat} (h : BsFam bs ks) {j : Nat} (hj : j ∈ ks) : ∀ k, Vw.lnO (lookB (bs 0)) j ≤ Vw.lnO (lookB (bs k)) j
  | 0 => Nat.le_refl _
  | k + 1 => Nat.le_trans (h.lnO hj k) (lnLe_lnO (h.ln k) ((h.has k j).2 hj))
theorem BsFam.refs {bs : Nat → List (Nat × Blk)} {ks : List Nat} (h : BsFam bs ks) (k : Nat) : ∀ j b, lookB (bs k) j = some b → ∀ i ∈ b.refs, lookB (bs k) i ≠ none := fun j b hj i hi => coverR_spec (h.cov k) _ (lookB_mem hj) i hi
structure Iter (P : Program) (gf : FuncId) (caps : List D) (N : Nat) (xs : Nat → List D) : Prop where
  enters : Enters P gf
  run : ∀ (bs : Nat → List (Nat × Blk)) (ks : List Nat), BsFam bs ks → ∀ (L : Nat) (io : Nat → Option Nat) (F : Nat → Prop) (w : World) (vs : Array Value), (∀ b, F b → b < w.heap.size) → vs.size = caps.length + 1 → DRT F w (fun i => vs[i]?) 0 (.raw (.func (.yield L) #[] #[]) :: caps) → BsR (OwnA (lookB (bs 0)) io) w.heap.size io F w (lookB (bs 0)) →
    (∀ k, k < N → YieldC P L (OwnA (lookB (bs 0)) io) F w io ((xs k).map V.d) (bs k) (bs (k + 1))) → ∀ n, CallsIn Fence.wide n P gf vs w (RetPost io F w (bs 0) (.tup []) (bs N))
theorem iter_of_awpI {P : Program} {T : TypeId → Option TyD} (hT : TabOk P T) {gf : FuncId} {fn : Func} {c : Code} (hf : P.funcs[gf]? = some fn) (hname : (fn.name == "runtime.NumGoroutine") = false) (hb : fn.body = some c) {caps : List D} {N : Nat} {xs : Nat → List D} (hn : caps.length + 1 ≤ fn.ntmps)
    (h : ∀ bs ks, BsFam bs ks → ∀ L w0 F0 A io0, (∀ k, k < N → YieldC P L A F0 w0 io0 ((xs k).map V.d) (bs k) (bs (k + 1))) → awpI none [] ⟨P, T, hT, fn.ntmps, w0, A, F0, ks, io0⟩ c (retPostB T fn (.tup []) (bs N)) (St.initB (.d (.raw (.func (.yield L) #[] #[])) :: caps.map V.d) (bs 0))) : Iter P gf caps N xs := by
  refine ⟨⟨fn, hf, hname, by rw [hb]; rfl⟩, fun bs ks hfam L io F w vs hF hl hv hbs hY n => ?_⟩
  refine callsIn_of_wp hf hb trivial ?_ rfl
  have hv' : VRT ⟨io, lnO (lookB (bs 0))⟩ F w (fun i => vs[i]?) 0 (.d (.raw (.func (.yield L) #[] #[])) :: caps.map V.d) := drt_toV (io := ⟨io, lnO (lookB (bs 0))⟩) hv
  have hs := sr_initB hT (N := fn.ntmps) (ks := ks) (xs := .d (.raw (.func (.yield L) #[] #[])) :: caps.map V.d) (by simpa using hl) (by simpa using hn) hF hv' hbs
  refine wpIn_mono (h bs ks hfam L w F _ io hY n _ _ _ _ hs) fun e a' w' ⟨a0, ea, s', io', F', hq, hs'⟩ => ?_
  have ea : a' = a0 := ea
  subst ea
  have hks : ∀ j ∈ ks, hasKey (bs N) j = true := fun j hj => by
    have := (hfam.has N j).2 hj
    obtain ⟨b, hb⟩ := Option.ne_none_iff_exists'.1 this
    unfold hasKey; rw [hb]
  have hko : ∀ l : List Nat, (∀ j ∈ l, hasKey (bs N) j = true) → keysOk (bs N) l = true := fun l => by
    induction l with
    | nil => intro _; rfl
    | cons a l ih => intro hl; simp only [keysOk, Bool.and_eq_true]; exact ⟨hl a (by simp), ih fun j hj => hl j (by simp [hj])⟩
  have hcov : (keysOk (bs N) ks && keysOk (bs N) (V.tup []).refs && coverR (bs N) (bs N)) = true := by
    simp only [Bool.and_eq_true]
    exact ⟨⟨hko ks hks, rfl⟩, hfam.cov N⟩
  cases e <;> simp only [retPostB] at hq <;> first | exact hq.elim | exact retB_fin (hfam.keys 0) hcov hs' hq
theorem lI_yieldF {X : Ctx} {all : Array Oper} {s : St} {o : Oper} {rest : List Oper} {Q : Exit → St → Prop} {c : Call} {y : Operand} {L : Nat} {d : Tmp} {xs : List D} {bs : Nat → List (Nat × Blk)} {k : Nat} (hfam : BsFam bs X.K) (hY : YieldC X.P L X.A X.F0 X.w0 X.io0 (xs.map V.d) (bs k) (bs (k + 1))) (hg : gd all s o = some true) (hop : o.op = .call c) (hcal : c.callee = .value y) (hy : s.opd y = .d (.raw (.func (.yield L) #[] #[]))) (hdst : o.dst = some d) (hd : dstOk X.N (some d) = true) (le : LeVT (c.args.toList.map s.opd) (xs.map V.d)) (hB : AllB s (bs k)) (r : awpLI none X all rest Q ((s.over (bs (k + 1))).put (some d) (.d (.bool true)))) : awpLI none X all (o :: rest) Q s := by
  have hrx : ∀ (l : List D), V.refsL (l.map V.d) = [] := fun l => by
    induction l with
    | nil => rfl
    | cons a l ih => simp [V.refsL, V.refs, ih]
  exact lI_yield hY hg hop hcal hy hdst hd le hB (fun j hj => (hfam.has k j).1 hj) (fun j hj => by rw [hrx] at hj; simp at hj) (hfam.refs k) (hfam.refs (k + 1)) (fun j => by rw [hfam.has, hfam.has]) (fun j hj => lnLe_lnO (hfam.ln k) hj) r

/-! ## Another call's surroundings -/
theorem BR.cellsAt {A : Nat → Prop} {n0 : Nat} {io : Keys} {F : Nat → Prop} {w : World} {k : Nat} {b : Blk} (h : BR A n0 io F w k b) {c : Nat} (e : io.io k = some c) : ∃ arr ty, w.heap[c]? = some (.cells arr ty (0, 0)) := by
  cases b with
  | data ty sz en z l =>
    simp only [BR] at h
    rcases h with ⟨h0, _⟩ | ⟨c', arr, g1, g2, g3, g4, _⟩
    · rw [h0] at e; cases e
    · rw [g1] at e; cases e; exact ⟨_, _, g4⟩
  | box ty cells =>
    simp only [BR] at h
    obtain ⟨c', arr, g1, g2, g3, g4, _⟩ := h
    rw [g1] at e; cases e; exact ⟨_, _, g4⟩
  | hole ty sz en z l i v =>
    simp only [BR] at h
    obtain ⟨c', arr, g1, g2, g3, g4, _⟩ := h
    rw [g1] at e; cases e; exact ⟨_, _, g4⟩
theorem BR.area {A A' : Nat → Prop} {n0 n0' : Nat} {io : Keys} {F : Nat → Prop} {w : World} {k : Nat} {b : Blk} (hA : ∀ c, io.io k = some c → A' c ∨ n0' ≤ c) (h : BR A n0 io F w k b) : BR A' n0' io F w k b := by
  cases b with
  | data ty sz e z l =>
    simp only [BR] at h ⊢
    rcases h with h | ⟨b, arr, g1, g2, g3, g4, g5⟩
    · exact .inl h
    · exact .inr ⟨b, arr, g1, g2, hA _ g1, g4, g5⟩
  | box ty cells =>
    simp only [BR] at h ⊢
    obtain ⟨b, arr, g1, g2, g3, g4, g5⟩ := h
    exact ⟨b, arr, g1, g2, hA _ g1, g4, g5⟩
  | hole ty sz e z l i v =>
    simp only [BR] at h ⊢
    obtain ⟨b, arr, g1, g2, g3, g4, g5⟩ := h
    exact ⟨b, arr, g1, g2, hA _ g1, g4, g5⟩
structure Turn (L : Nat) (w w' : World) : Prop where
  other : ∀ b, b ≠ L → w'.heap[b]? = w.heap[b]?
  size : w'.heap.size = w.heap.size
  nc : ∀ arr ty fz, w.heap[L]? ≠ some (.cells arr ty fz)
  nc' : ∀ arr ty fz, w'.heap[L]? ≠ some (.cells arr ty fz)
  os : w'.os = w.os
  tape : w'.tape = w.tape
  output : w'.output = w.output
theorem Turn.shapes {L : Nat} {w w' : World} (h : Turn L w w') : Shapes w w' := fun b arr ty fz hb => by
  by_cases e : b = L
  · subst e; exact absurd hb (h.nc _ _ _)
  · exact ⟨arr, (h.other b e).trans hb, rfl⟩
theorem turn_putObj {w : World} {L : Nat} {r r' : Loop} (h : w.heap[L]? = some (.loop r)) : Turn L w (w.putObj L (.loop r')) :=
  ⟨fun b hb => World.putObj_heap_other hb, by simp, fun arr ty fz e => (by rw [h] at e; cases e), fun arr ty fz e => (by rw [World.putObj_heap_same (lt_of_heap h)] at e; cases e), rfl, rfl, rfl⟩
theorem SR.rebase {X : Ctx} {io : Nat → Option Nat} {F : Nat → Prop} {s : St} {a : Act} {w w' : World} {L : Nat} (hs : SR X io F s a w) (ht : Turn L w w') (hL : ¬ F L) : SR ⟨X.P, X.T, X.ok, X.N, w', OwnA s.blk io, F, X.K, io⟩ io F s a w' := by
  have hi : ∀ k, (s.keys io).io k = (s.keys io).io k ∧ (s.keys io).ln k ≤ (s.keys io).ln k := fun k => ⟨rfl, Nat.le_refl _⟩
  have hst : Stays F w w' := fun b hb => ht.other b fun e => hL (e ▸ hb)
  refine ⟨⟨rfl, rfl, rfl, Nat.le_refl _, fun _ _ _ => rfl, Shapes.refl _⟩, fun t => VR.mono hi (fun _ h => h) hst ht.shapes _ _ (hs.tm t), hs.nt, DfR.mono hi (fun _ h => h) hst ht.shapes _ _ hs.df, fun k b hk => ?_, hs.inj, fun b hb => ⟨by show b < w'.heap.size; rw [ht.size]; exact (hs.ff b hb).1, .inl hb⟩, fun b hb => hb, fun k _ => rfl⟩
  have hbr := hs.bl k b hk
  have hm : BR X.A X.w0.heap.size (s.keys io) F w' k b := BR.mono hi (fun _ h => h) hst ht.shapes (fun c o e1 e2 e3 => by
    obtain ⟨arr, ty, hc⟩ := hbr.cellsAt e1
    have hne : c ≠ L := fun e => by subst e; exact ht.nc _ _ _ hc
    exact ⟨(ht.other c hne).trans e2, e3⟩) hbr
  exact BR.area (fun c hc => .inl ⟨k, by rw [hk]; simp, hc⟩) hm
theorem of_keys (ts : List (Nat × V)) (bs : List (Nat × Blk)) (io : Nat → Option Nat) : (St.of ts bs).keys io = ⟨io, lnO (lookB bs)⟩ := by unfold St.keys; rw [lnO_eq]; rfl
theorem refs_lookT {t k : Nat} : ∀ {ts : List (Nat × V)}, k ∈ (lookT ts t).refs → k ∈ V.refsL (ts.map (·.2))
  | [], h => by simp [lookT, V.refs] at h
  | (j, v) :: r, h => by
    simp only [lookT] at h
    simp only [List.map_cons, V.refsL, List.mem_append]
    cases hb : Nat.beq t j with
    | true => rw [hb] at h; exact .inl h
    | false => rw [hb] at h; exact .inr (refs_lookT h)
theorem SR.again {X : Ctx} {io : Nat → Option Nat} {F : Nat → Prop} {ts : List (Nat × V)} {bs0 bsk : List (Nat × Blk)} {ks : List Nat} {a : Act} {w w2 : World} (hs : SR X io F (St.of ts bs0) a w) (hrefs : keysOk bs0 (V.refsL (ts.map (·.2))) = true) (hln : ∀ k, lookB bs0 k ≠ none → lnO (lookB bs0) k ≤ lnO (lookB bsk) k) {io1 : Nat → Option Nat} {F1 : Nat → Prop} (hst : Stays F w w2) (hsh : Shapes w w2) (hF : ∀ b, F b → F1 b) (hF1 : ∀ b, F1 b → b < w2.heap.size) (hio : ∀ k, lookB bs0 k ≠ none → io1 k = io k) {A : Nat → Prop} {n0 : Nat} (hbs : BsR A n0 io1 F1 w2 (lookB bsk)) : SR ⟨X.P, X.T, X.ok, X.N, w2, OwnA (lookB bsk) io1, F1, ks, io1⟩ io1 F1 (St.of ts bsk) { tmps := a.tmps, defers := [] } w2 := by
  refine ⟨⟨rfl, rfl, rfl, Nat.le_refl _, fun _ _ _ => rfl, Shapes.refl _⟩, fun t => ?_, hs.nt, rfl, fun k b hk => ?_, hbs.inj, fun b hb => ⟨hF1 b hb, .inl hb⟩, fun b hb => hb, fun k _ => rfl⟩
  · rw [of_keys]
    have h0 := hs.tm t
    rw [of_keys] at h0
    have h1 : VR ⟨io1, lnO (lookB bsk)⟩ F w (lookT ts t) (a.tmps.getD t undef) := VR.agree (io := ⟨io, lnO (lookB bs0)⟩) _ _ (fun k hk => by
      have := hasKey_ne (keysOk_spec hrefs k (refs_lookT hk))
      exact ⟨hio k this, hln k this⟩) h0
    exact VR.mono (fun k => ⟨rfl, Nat.le_refl _⟩) hF hst hsh _ _ h1
  · rw [of_keys]
    exact BR.area (fun c hc => .inl ⟨k, by rw [show lookB bsk k = some b from hk]; simp, hc⟩) (hbs.br k b hk)

theorem BR.turn {A : Nat → Prop} {n0 : Nat} {io : Keys} {F : Nat → Prop} {w w' : World} {k : Nat} {b : Blk} {L : Nat} (ht : Turn L w w') (hL : ¬ F L) (h : BR A n0 io F w k b) : BR A n0 io F w' k b :=
  BR.mono (fun k => ⟨rfl, Nat.le_refl _⟩) (fun _ h => h) (fun b hb => ht.other b fun e => hL (e ▸ hb)) ht.shapes (fun c o e1 e2 e3 => by
    obtain ⟨arr, ty, hc⟩ := h.cellsAt e1
    have hne : c ≠ L := fun e => by subst e; exact ht.nc _ _ _ hc
    exact ⟨(ht.other c hne).trans e2, e3⟩) h
theorem BsR.turn {A : Nat → Prop} {n0 : Nat} {io : Nat → Option Nat} {F : Nat → Prop} {w w' : World} {B : Nat → Option Blk} {L : Nat} (ht : Turn L w w') (hL : ¬ F L) (h : BsR A n0 io F w B) : BsR A n0 io F w' B := ⟨fun k b hk => (h.br k b hk).turn ht hL, h.inj⟩
theorem BsR.area {A A' : Nat → Prop} {n0 n0' : Nat} {io : Nat → Option Nat} {F : Nat → Prop} {w : World} {B : Nat → Option Blk} (hA : ∀ c, A c ∨ n0 ≤ c → A' c ∨ n0' ≤ c) (h : BsR A n0 io F w B) : BsR A' n0' io F w B := ⟨fun k b hk => BR.agree hA rfl (fun j _ => ⟨rfl, Nat.le_refl _⟩) (h.br k b hk), h.inj⟩
theorem SR.lent {X : Ctx} {io : Nat → Option Nat} {F : Nat → Prop} {s : St} {a : Act} {w : World} (hs : SR X io F s a w) {bs : List (Nat × Blk)} (hB : AllB s bs) (hc : coverR bs bs = true) : BsR X.A X.w0.heap.size io F w (lookB bs) := by
  have hln : ∀ k, lookB bs k ≠ none → s.ln k ≤ lnO (lookB bs) k := fun k hk => by
    obtain ⟨b, hb⟩ := Option.ne_none_iff_exists'.1 hk
    rw [ln_of (lookB_of hB k b hb).1, lnO_of hb]; exact Nat.le_refl _
  exact ⟨fun k b hk => BR.agree (io := s.keys io) (io' := ⟨io, lnO (lookB bs)⟩) (fun _ h => h) rfl (fun j hj => ⟨rfl, hln j (coverR_spec hc _ (lookB_mem hk) j hj)⟩) (hs.bl k b (lookB_of hB k b hk).1), fun k k' b e1 e2 e3 e4 => by
    obtain ⟨b1, hb1⟩ := Option.ne_none_iff_exists'.1 e1
    obtain ⟨b2, hb2⟩ := Option.ne_none_iff_exists'.1 e2
    exact hs.inj k k' b (by rw [(lookB_of hB k b1 hb1).1]; simp) (by rw [(lookB_of hB k' b2 hb2).1]; simp) e3 e4⟩
theorem SR.ownIn {X : Ctx} {io : Nat → Option Nat} {F : Nat → Prop} {s : St} {a : Act} {w : World} (hs : SR X io F s a w) {c : Nat} (h : OwnA s.blk io c) : X.A c ∨ X.w0.heap.size ≤ c := by
  obtain ⟨k, hk, e⟩ := h
  obtain ⟨b, hb⟩ := Option.ne_none_iff_exists'.1 hk
  exact ((hs.bl k b hb).notF e).2.1

/-! ## A loop over an iterator -/
def liftE (X : Ctx) (Q : Exit → St → Prop) : Exit → Act → World → Prop := fun e a w => ∃ (D : Nat) (a0 : Act) (w1 : World) (A1 F1 : Nat → Prop) (K1 : List Nat) (io1 io : Nat → Option Nat) (F : Nat → Prop) (s : St),
  a = Act.mk' [{ target := .collected D, args := #[] }] a0 ∧ Q e s ∧ SR ⟨X.P, X.T, X.ok, X.N, w1, A1, F1, K1, io1⟩ io F s a0 w ∧ Kept X.A X.w0 w1 ∧ (∀ b, A1 b → X.A b ∨ X.w0.heap.size ≤ b) ∧ (∀ b, X.F0 b → F1 b) ∧ (∀ b, F1 b → X.F0 b ∨ X.w0.heap.size ≤ b ∨ X.A b) ∧
  D < w1.heap.size ∧ w1.heap[D]? = some (.deferred (some [])) ∧ ¬ A1 D ∧ ¬ F1 D ∧ X.w0.heap.size ≤ D
def awpE (X : Ctx) (c : Code) (Q : Exit → St → Prop) (s : St) : Prop := ∀ n io F a w, SR X io F s a w → c.wpIn Fence.wide n X.P (liftE X Q) a w
def awpEB (X : Ctx) (b rest : Code) (Q : Exit → St → Prop) (s : St) : Prop := ∀ n io F a w, SR X io F s a w → b.wpIn Fence.wide n X.P (Exit.then (rest.wpIn Fence.wide n X.P (liftE X Q)) (fun _ _ _ => False)) a w
theorem awpE_seq {X : Ctx} {x y : Code} {Q : Exit → St → Prop} {s : St} (h : awp X x (split' (awpE X y Q)) s) : awpE X (.seq x y) Q s := fun n io F a w hs =>
  wpIn_seq (wpIn_mono (wpIn_wide.2 (h io F a w hs)) fun e a w ⟨s', io', F', hq, hs'⟩ => by
    cases e <;> first | exact hq _ _ _ _ _ hs' | exact hq.elim)
theorem awpE_seq2 {X : Ctx} {x b rest : Code} {Q : Exit → St → Prop} {s : St} (h : awp X x (split' (awpEB X b rest Q)) s) : awpE X (.seq (.seq x b) rest) Q s := fun n io F a w hs =>
  wpIn_seq (wpIn_seq (wpIn_mono (wpIn_wide.2 (h io F a w hs)) fun e a w ⟨s', io', F', hq, hs'⟩ => by
    cases e with
    | normal =>
      refine wpIn_mono (hq n _ _ _ _ hs') fun e a w hp => ?_
      cases e <;> first | exact hp | exact hp.elim
    | _ => exact hq.elim))
section
variable {X : Ctx} {ts : List (Nat × V)} {bs : Nat → List (Nat × Blk)} {ks : List Nat} {N : Nat} {g : Operand} {p1 p2 : Tmp} {assign body rest : Code} {gf : FuncId} {caps : List D} {x1 x2 : Nat → D} {Q : Exit → St → Prop}
theorem awpEB_range {id : Nat} (hfam : BsFam bs ks) (hg : (St.of ts (bs 0)).opd g = .d (.fn gf caps)) (hit : Iter X.P gf caps N (fun k => [x1 k, x2 k])) (htr : keysOk (bs 0) (V.refsL (ts.map (·.2))) = true) (hp1 : p1 < X.N) (hp2 : p2 < X.N)
    (hround : ∀ k, k < N → ∀ L w0 F0 A io0, awpI (some L) [] ⟨X.P, X.T, X.ok, X.N, w0, A, F0, ks, io0⟩ assign (split' (fun s1 => ∀ w0 F0 A io0, awpI (some L) [] ⟨X.P, X.T, X.ok, X.N, w0, A, F0, ks, io0⟩ body (split' (fun s' => s'.dfs = [] ∧ AllB s' (bs (k + 1)))) s1)) (((St.of ts (bs k)).put (some p1) (.d (x1 k))).put (some p2) (.d (x2 k))))
    (hrest : ∀ D w0 F0 A io0, awpI none [{ target := .collected D, args := #[] }] ⟨X.P, X.T, X.ok, X.N, w0, A, F0, ks, io0⟩ rest Q (St.of ts (bs N))) : awpEB X (.block id (.rangeFunc g #[p1, p2] assign body)) rest Q (St.of ts (bs 0)) := by
  intro n io F a w hs
  have hdef : a.defers = [] := hs.df
  have hgv := hs.opd g
  rw [hg] at hgv
  simp only [VR, DR] at hgv
  obtain ⟨arr, hge, harl, hara⟩ := hgv
  refine wpIn_block (wpIn_rangeFunc ?_)
  intro fn hfn
  obtain ⟨rec, hrec⟩ : ∃ rec : LoopState → Option Code → Loop, rec = fun st pe => { state := st, pending := pe, fn, tmps := a.tmps, params := #[p1, p2], assign, body, defers := w.heap.size } := ⟨_, rfl⟩
  obtain ⟨w1, hw1⟩ : ∃ w1, (w.alloc (.deferred (some []))).alloc (.loop (rec .ready none)) = w1 := ⟨_, rfl⟩
  have hsz1 : w1.heap.size = w.heap.size + 2 := by rw [← hw1]; simp [World.size_alloc]
  have hL1 : w1.heap[w.heap.size + 1]? = some (.loop (rec .ready none)) := by
    rw [← hw1]; have := World.alloc_heap_new (w.alloc (.deferred (some []))) (.loop (rec .ready none)); rwa [World.size_alloc] at this
  have hD1 : w1.heap[w.heap.size]? = some (.deferred (some [])) := by
    rw [← hw1]; exact (Below.heap_alloc _ _ _ (by simp)).trans (World.alloc_heap_new w _)
  have hb1 : Below w.heap.size w w1 := by
    rw [← hw1]; exact ((Below.refl _ w).alloc (Nat.le_refl _) _).alloc (by simp) _
  have hs1 : SR X io F (St.of ts (bs 0)) a w1 := hs.grow hb1 (fun _ h => h) (fun _ h => .inl h)
  obtain ⟨A0, hA0⟩ : ∃ A0, OwnA (lookB (bs 0)) io = A0 := ⟨_, rfl⟩
  have hownlt : ∀ b, A0 b → b < w.heap.size ∧ (X.A b ∨ X.w0.heap.size ≤ b) ∧ ¬ F b := fun b hb => by
    rw [← hA0] at hb
    obtain ⟨k, hk, e⟩ := hb
    obtain ⟨bl, hbl⟩ := Option.ne_none_iff_exists'.1 hk
    have := (hs.bl k bl hbl).notF e
    exact ⟨this.2.2, this.2.1, this.1⟩
  have hLA : ¬ A0 (w.heap.size + 1) := fun h => by have := (hownlt _ h).1; omega
  have hDA : ¬ A0 w.heap.size := fun h => by have := (hownlt _ h).1; omega
  have hFlt : ∀ b, F b → b < w.heap.size := fun b h => (hs.ff b h).1
  have hkept1 : Kept X.A X.w0 w1 := hs1.kept
  refine ⟨w.heap.size + 1, [{ target := .collected w.heap.size, args := #[] }], w1, { target := .fn (.func gf) arr, args := #[.func (.yield (w.heap.size + 1)) #[] #[]] }, w1, gf, #[.func (.yield (w.heap.size + 1)) #[] #[]] ++ arr, w1, ?_, ?_, fun _ _ => trivial, ?_, fun h => by simp [Fence.wide] at h, ?_⟩
  · rw [← hw1, hrec]; exact run_enterLoop_outer _ _ _ _ _
  · simp only [resolve, hge]
    simp [go_sem]
  · simp only [invoke]
    simp [run_enter hit.enters]
  have hYs : ∀ k, k < N → YieldC X.P (w.heap.size + 1) A0 F w1 io [.d (x1 k), .d (x2 k)] (bs k) (bs (k + 1)) := by
    intro k hk io1 F1 w2 vs hkept hF1 hF1s hio hvsz hv hbs
    have hL2 : w2.heap[w.heap.size + 1]? = some (.loop (rec .ready none)) := (hkept.block _ (by omega) hLA).trans hL1
    have hA1 : ∀ c, OwnA (lookB (bs k)) io1 c → A0 c := fun c ⟨j, hj, e⟩ => by
      rw [← hA0]
      exact ⟨j, (hfam.has 0 j).2 ((hfam.has k j).1 hj), by rw [← hio j hj]; exact e⟩
    have hsz2 : w1.heap.size ≤ w2.heap.size := hkept.size
    have hFL1 : ¬ F1 (w.heap.size + 1) := fun h => by
      rcases (hF1s _ h).2 with h | h | h
      · have := hFlt _ h; omega
      · omega
      · exact hLA h
    obtain ⟨v1, v2, rfl⟩ : ∃ v1 v2, vs = #[v1, v2] := by
      obtain ⟨l⟩ := vs
      simp at hvsz
      match l, hvsz with
      | [v1, v2], _ => exact ⟨v1, v2, rfl⟩
    simp only [List.map_cons, List.map_nil, VRT, VR] at hv
    obtain ⟨⟨u1, hu1, hd1⟩, ⟨u2, hu2, hd2⟩, _⟩ := hv
    simp at hu1 hu2
    subst hu1 hu2
    have hst2 : Stays F w w2 := fun b hb => (hkept.block b (by have := hFlt b hb; omega) (fun h => (hownlt b h).2.2 hb)).trans (hb1.block b (hFlt b hb))
    have hsh2 : Shapes w w2 := (shapes_of_below hb1).trans hkept.shape
    have hs2 := SR.again (ks := ks) hs htr (bsk := bs k) (fun j hj => hfam.lnO ((hfam.has 0 j).1 hj) k) hst2 hsh2 hF1 (fun b hb => (hF1s b hb).1) (fun j hj => hio j ((hfam.has k j).2 ((hfam.has 0 j).1 hj))) hbs
    have hs2' := (hs2.put (dst := some p1) (x := .d (x1 k)) (v := v1) (fun d e => by cases e; exact hp1) (by simp only [VR]; exact hd1)).put (dst := some p2) (x := .d (x2 k)) (v := v2) (fun d e => by cases e; exact hp2) (by simp only [VR]; exact hd2)
    refine ⟨fn, ((rec .ready none).params.zip #[v1, v2]).foldl (fun tmps (t, a) => tmps.setIfInBounds t a) (rec .ready none).tmps, assign, body, ?_, fun n' => roundIn_of_wpIn trivial ?_⟩
    · have h0 := run_yield (P := X.P) (args := #[v1, v2]) hL2 (by rw [hrec]; rfl)
      rw [show (rec .ready none).fn = fn from by rw [hrec], show (rec .ready none).assign = assign from by rw [hrec], show (rec .ready none).body = body from by rw [hrec]] at h0
      exact h0
    have hr1 := hround k hk (w.heap.size + 1) w2 F1 (OwnA (lookB (bs k)) io1) io1 n' io1 F1 _ w2 hs2'
    have htm : (Act.put (Act.put { tmps := a.tmps, defers := [] } (some p1) v1) (some p2) v2) = { tmps := ((rec .ready none).params.zip #[v1, v2]).foldl (fun tmps (t, a) => tmps.setIfInBounds t a) (rec .ready none).tmps, defers := [] } := by
      rw [hrec]; simp [Act.put]
    rw [htm] at hr1
    refine wpIn_mono hr1 fun e a3 w3 ⟨a30, ea, s3, io3, F3, hq3, hs3⟩ => ?_
    have ea : a3 = a30 := ea
    subst ea
    have en : e = .normal := by cases e <;> first | rfl | exact hq3.elim
    subst en
    have hnA1 : ¬ OwnA (lookB (bs k)) io1 (w.heap.size + 1) := fun h => hLA (hA1 _ h)
    have hL3 : w3.heap[w.heap.size + 1]? = some (.loop (rec .ready none)) := (hs3.kept.block _ (by show w.heap.size + 1 < w2.heap.size; omega) hnA1).trans hL2
    have hFL3 : ¬ F3 (w.heap.size + 1) := fun h => by
      rcases (hs3.ff _ h).2 with h | h | h
      · exact hFL1 h
      · have h : w2.heap.size ≤ w.heap.size + 1 := h; omega
      · exact hnA1 h
    refine ⟨_, run_beginRound hL3 (by rw [hrec]), ?_⟩
    have ht4 := turn_putObj (r' := { rec .ready none with state := .busy }) hL3
    obtain ⟨w4, hw4⟩ : ∃ w4, w3.putObj (w.heap.size + 1) (.loop { rec .ready none with state := .busy }) = w4 := ⟨_, rfl⟩
    have hL4 : w4.heap[w.heap.size + 1]? = some (.loop { rec .ready none with state := .busy }) := by
      rw [← hw4]; exact World.putObj_heap_same (lt_of_heap hL3)
    rw [hw4] at ht4 ⊢
    have hs4 := hs3.rebase ht4 hFL3
    have hnA3 : ¬ OwnA s3.blk io3 (w.heap.size + 1) := fun h => by
      rcases hs3.ownIn h with h | h
      · exact hnA1 h
      · have h : w2.heap.size ≤ w.heap.size + 1 := h; omega
    refine wpIn_mono (hq3 _ _ _ _ n' _ _ _ _ hs4) fun e a5 w5 ⟨a50, ea, s5, io5, F5, hq5, hs5⟩ => ?_
    have en : e = .normal := by cases e <;> first | rfl | exact hq5.elim
    subst en
    have hsz4 : w4.heap.size = w3.heap.size := ht4.size
    have hsz3 : w2.heap.size ≤ w3.heap.size := hs3.kept.size
    have hsz5 : w4.heap.size ≤ w5.heap.size := hs5.kept.size
    have hL5 : w5.heap[w.heap.size + 1]? = some (.loop { rec .ready none with state := .busy }) := (hs5.kept.block _ (by show w.heap.size + 1 < w4.heap.size; omega) hnA3).trans hL4
    have hFL5 : ¬ F5 (w.heap.size + 1) := fun h => by
      rcases (hs5.ff _ h).2 with h | h | h
      · exact hFL3 h
      · have h : w4.heap.size ≤ w.heap.size + 1 := h; omega
      · exact hnA3 h
    have ht6 := turn_putObj (r' := rec .ready none) hL5
    have hend5 : (Instr.endRound (w.heap.size + 1) none).run X.P w5 = .ok (.bool true) (w5.putObj (w.heap.size + 1) (.loop (rec .ready none))) := by
      have h0 := run_endRound (P := X.P) none hL5
      rw [hrec] at h0 ⊢
      exact h0
    refine ⟨_, _, hend5, rfl, io5, F5, ?_, fun b hb => hs5.f0 b (hs3.f0 b hb), fun b hb => ?_, fun j hj => ?_, ?_⟩
    · refine ⟨?_, ?_, ?_, ?_, fun b hb1' hb2 => ?_, ?_⟩
      · exact ht6.os.trans (hs5.kept.os.trans (ht4.os.trans hs3.kept.os))
      · exact ht6.tape.trans (hs5.kept.tape.trans (ht4.tape.trans hs3.kept.tape))
      · exact ht6.output.trans (hs5.kept.output.trans (ht4.output.trans hs3.kept.output))
      · rw [ht6.size]; omega
      · by_cases e : b = w.heap.size + 1
        · subst e
          rw [World.putObj_heap_same (lt_of_heap hL5), hL2]
        · rw [ht6.other b e]
          refine (hs5.kept.block b (by show b < w4.heap.size; omega) fun h => ?_).trans ((ht4.other b e).trans (hs3.kept.block b hb1' hb2))
          rcases hs3.ownIn h with h | h
          · exact hb2 h
          · have h : w2.heap.size ≤ b := h; omega
      · exact ((hs3.kept.shape.trans ht4.shapes).trans hs5.kept.shape).trans ht6.shapes
    · obtain ⟨q1, q2⟩ := hs5.ff b hb
      refine ⟨by rw [ht6.size]; exact q1, ?_⟩
      rcases q2 with h | h | h
      · rcases (hs3.ff b h).2 with h | h | h
        · exact .inl h
        · exact .inr (.inl h)
        · exact .inr (.inr h)
      · have h : w4.heap.size ≤ b := h
        exact .inr (.inl (by omega))
      · rcases hs3.ownIn h with h | h
        · exact .inr (.inr h)
        · exact .inr (.inl h)
    · have hjk : j ∈ ks := (hfam.has k j).1 hj
      exact (hs5.st j hjk).trans (hs3.st j hjk)
    · refine BsR.turn ht6 hFL5 (BsR.area (fun c hc => ?_) (hs5.lent hq5.2 (hfam.cov (k + 1))))
      rcases hc with h | h
      · exact hs3.ownIn h
      · have h : w4.heap.size ≤ c := h
        exact .inr (by omega)
  have hcalls := hit.run bs ks hfam (w.heap.size + 1) io F w1 (#[.func (.yield (w.heap.size + 1)) #[] #[]] ++ arr) (fun b h => by have := hFlt b h; omega) (by simp [harl]; omega) (by
    simp only [DRT, DR]
    refine ⟨⟨.func (.yield (w.heap.size + 1)) #[] #[], by rw [Array.getElem?_append_left (by simp)]; rfl, rfl⟩, ?_⟩
    rw [DRT_iff]
    intro i c hi
    obtain ⟨v, h1, _, h3⟩ := DRA_iff.1 hara i c hi
    refine ⟨v, ?_, DR.mono (fun _ h => h) (fun b h => hb1.block b (hFlt b h)) _ _ h3⟩
    rw [Array.getElem?_append_right (by simp)]
    simpa using h1) (hs1.lendB (fun k b h => h) (hfam.refs 0)) (by rw [hA0]; exact hYs) (n - 1)
  refine CallsIn.mono hcalls fun e w3 hpost => ?_
  obtain ⟨v, io', F', rfl, g1, g2, g3, g4, _, g6⟩ := hpost
  rw [hA0] at g1 g3 g6
  have hL3 : w3.heap[w.heap.size + 1]? = some (.loop (rec .ready none)) := (g1.block _ (by omega) hLA).trans hL1
  have hend := run_endLoop (P := X.P) hL3 (by rw [hrec]; simp)
  have ht4 := turn_putObj (r' := { rec .ready none with state := .exhausted }) hL3
  obtain ⟨w4, hw4⟩ : ∃ w4, w3.putObj (w.heap.size + 1) (.loop { rec .ready none with state := .exhausted }) = w4 := ⟨_, rfl⟩
  rw [hw4] at hend ht4
  rw [show (rec .ready none).pending = none from by rw [hrec]] at hend
  refine ⟨none, w4, hend, ?_⟩
  have hFL3 : ¬ F' (w.heap.size + 1) := fun h => by
    rcases (g3 _ h).2 with h | h | h
    · have := hFlt _ h; omega
    · omega
    · exact hLA h
  have hFD : ¬ F' w.heap.size := fun h => by
    rcases (g3 _ h).2 with h | h | h
    · have := hFlt _ h; omega
    · omega
    · exact hDA h
  have hsz3 : w1.heap.size ≤ w3.heap.size := g1.size
  have hst4 : Stays F w w4 := fun b hb => (ht4.other b (by have := hFlt b hb; omega)).trans ((g1.block b (by have := hFlt b hb; omega) (fun h => (hownlt b h).2.2 hb)).trans (hb1.block b (hFlt b hb)))
  have hsh4 : Shapes w w4 := ((shapes_of_below hb1).trans g1.shape).trans ht4.shapes
  have hs4 := SR.again (ks := ks) hs htr (bsk := bs N) (fun j hj => hfam.lnO ((hfam.has 0 j).1 hj) N) hst4 hsh4 g2 (fun b hb => by rw [ht4.size]; exact (g3 b hb).1) g4 (g6.turn ht4 hFL3)
  have hA1 : ∀ c, OwnA (lookB (bs N)) io' c → A0 c := fun c ⟨j, hj, e⟩ => by
    rw [← hA0]
    have h0 : lookB (bs 0) j ≠ none := (hfam.has 0 j).2 ((hfam.has N j).1 hj)
    exact ⟨j, h0, by rw [← g4 j h0]; exact e⟩
  have hsz0 : X.w0.heap.size ≤ w.heap.size := hs.kept.size
  show Exit.inBlock id _ .normal _ w4
  simp only [Exit.inBlock, Exit.then]
  have hr := hrest w.heap.size w4 F' (OwnA (lookB (bs N)) io') io' n io' F' _ w4 hs4
  have hact : (Act.mk' [{ target := .collected w.heap.size, args := #[] }] { tmps := a.tmps, defers := [] }) = { a with defers := [{ target := .collected w.heap.size, args := #[] }] ++ a.defers } := by rw [hdef]
  rw [hact] at hr
  refine wpIn_mono hr fun e a5 w5 ⟨a50, ea, s5, io5, F5, hq5, hs5⟩ => ?_
  refine ⟨w.heap.size, a50, w4, OwnA (lookB (bs N)) io', F', ks, io', io5, F5, s5, ea, hq5, hs5, ?_, fun b hb => (hownlt b (hA1 b hb)).2.1, fun b hb => g2 b (hs.f0 b hb), fun b hb => ?_, by rw [ht4.size]; omega, ?_, fun h => hDA (hA1 _ h), hFD, hsz0⟩
  · refine ⟨ht4.os.trans (g1.os.trans (hb1.os.trans hs.kept.os)), ht4.tape.trans (g1.tape.trans (hb1.tape.trans hs.kept.tape)), ht4.output.trans (g1.output.trans (hb1.output.trans hs.kept.output)), by rw [ht4.size]; omega, fun b e1 e2 => ?_, hs.kept.shape.trans hsh4⟩
    refine (ht4.other b (by omega)).trans ((g1.block b (by omega) (fun h => ?_)).trans ((hb1.block b (by omega)).trans (hs.kept.block b e1 e2)))
    rcases (hownlt b h).2.1 with h | h
    · exact e2 h
    · omega
  · rcases (g3 b hb).2 with h | h | h
    · exact (hs.ff b h).2
    · exact .inr (.inl (by omega))
    · rcases (hownlt b h).2.1 with h | h
      · exact .inr (.inr h)
      · exact .inr (.inl h)
  · exact (ht4.other _ (by omega)).trans ((g1.block _ (by omega) hDA).trans hD1)
end
end Go.Vw

/-
  copy into a slice of the call's own. Conditions: the table of types is the program's.
-/
namespace Go.Vw
open Go.RowKit
section
variable {X : Ctx} {T : TypeId → Option TyD} (hT : TabOk X.P T) {all : Array Oper} {s : St} {x y : Operand} {t ty e : TypeId} {pos : String} {after : Array Edge} {g : Option (Nat × Bool)} {d : Option Tmp} {td ed : TyD} {k o n : Nat} {α : Type} {en : α → List D} {z : α} {l l2 : List α}
  (hg : gd all s ⟨d, .call ⟨.builtin .copy, #[x, y], #[t, t]⟩, ty, pos, after, g⟩ = some true) (hd : dstOk X.N d = true) (ht : T t = some td) (hds : td.desc = .slice e) (he : T e = some ed)
include hT hg hd ht hds he
end
section
variable {X : Ctx} {all : Array Oper} {o : Oper} {rest : List Oper} {Q : Exit → St → Prop} {s : St} {td ed : TyD} {α : Type} {en : α → List D} {z : α} {l l2 : List α}
end
section
variable {ex : Bool} {X : Ctx} {all : Array Oper} {o : Oper} {pre rest : List Oper} {Q : Exit → St → Prop} {s : St} {td ed : TyD} {α : Type} {en : α → List D} {z : α} {l : List α}
end
/-! ## Where ways meet, in another form -/

def Conv (X : Ctx) (s s' : St) : Prop := ∀ io F a w, SR X io F s a w → ∃ io' F', SR X io' F' s' a w
section
variable {X : Ctx} {s s' s'' : St}
theorem Conv.refl : Conv X s s := fun io F _ _ hs => ⟨io, F, hs⟩
theorem Conv.trans (h : Conv X s s') (k : Conv X s' s'') : Conv X s s'' := fun io F a w hs => by
  obtain ⟨io', F', hs'⟩ := h io F a w hs
  exact k io' F' a w hs'
theorem Conv.cast (t : Nat) {x : D} (y : D) (ht : s.tmps t = .d x) (hle : LeD x y) : Conv X s (s.put (some t) (.d y)) := fun io F a w hs => by
  refine ⟨io, F, hs.kept, fun u => ?_, hs.nt, hs.df, hs.bl, hs.inj, hs.ff, hs.f0, hs.st⟩
  rw [put_keys]
  simp only [St.put]
  cases hb : Nat.beq u t with
  | true =>
    have := Nat.eq_of_beq_eq_true hb
    subst this
    have hv := hs.tm u
    rw [ht] at hv
    simp only [cond_true, VR] at hv ⊢
    exact hle F w _ hv
  | false => simpa using hs.tm u
theorem Conv.frz (k : Nat) {b : Blk} (hk : s.blk k = some b) : Conv X s (s.sub k (some b)) := fun io F a w hs => by
  obtain ⟨F', hs', _⟩ := hs.freeze k hk
  exact ⟨io, F', hs'⟩
end
end Go.Vw

/-
  Contracts of functions that hold a range over a function. Conditions: the table of types is the program's.
-/
namespace Go.Vw
open Go.RowKit

theorem turn_def {w : World} {D : Nat} {r r' : Option (List Deferred)} (h : w.heap[D]? = some (.deferred r)) : Turn D w (w.putObj D (.deferred r')) :=
  ⟨fun b hb => World.putObj_heap_other hb, by simp, fun arr ty fz e => (by rw [h] at e; cases e), fun arr ty fz e => (by rw [World.putObj_heap_same (lt_of_heap h)] at e; cases e), rfl, rfl, rfl⟩
theorem SR.lentIn {X : Ctx} {io : Nat → Option Nat} {F : Nat → Prop} {s : St} {a : Act} {w : World} (hs : SR X io F s a w) {b : Nat} (h : Lent s io F b) : b < w.heap.size ∧ (X.F0 b ∨ X.w0.heap.size ≤ b ∨ X.A b) := by
  rcases h with h | ⟨k, hk, e⟩
  · exact hs.ff b h
  · obtain ⟨bl, hbl⟩ := Option.ne_none_iff_exists'.1 hk
    have := (hs.bl k bl hbl).notF e
    refine ⟨this.2.2, ?_⟩
    rcases this.2.1 with h | h
    · exact .inr (.inr h)
    · exact .inr (.inl h)
theorem nout_retB {T : TypeId → Option TyD} {fn : Func} {y : V} {bs : List (Nat × Blk)} : NoOut (retPostB T fn y bs) := fun s h => h
theorem nout_ret {T : TypeId → Option TyD} {fn : Func} {R : D → Prop} : NoOut (retPost T fn R) := fun s h => h
theorem nout {Q : Exit → St → Prop} (h : NoOut Q := by
  repeat' (first | exact Go.Vw.NoOut.none | exact Go.Vw.nout_retB | exact Go.Vw.nout_ret | apply Go.Vw.NoOut.then | apply Go.Vw.NoOut.block)) : NoOut Q := h
section
variable {ro : Option Nat} {X : Ctx} {Q : Exit → St → Prop} {s : St}
theorem awpI_cut {id : Nat} (k : Nat) {l : List Oper} (hQ : NoOut Q) (h : awpL X l.toArray (l.take k) (split' (awpLI ro X l.toArray (l.drop k) Q)) s) (hd : noDef (l.take k) = true := by rfl) : awpI ro [] X (.region id l.toArray false) Q s := by
  have := awpI_parts (ro := ro) (id := id) (l.take k) (l.drop k) (by rw [List.take_append_drop]; exact h) hd
  rwa [List.take_append_drop] at this
theorem awpI_regE {ex : Bool} {id : Nat} (n : Nat) (ks : List Nat) {ops : List Oper} (hQ : NoOut Q) (hm : X.P.follows .mixedOrders = true) (hok : ordOk ex ops.toArray n = true) (hak : allocKeys ops.toArray = ks) (hK : (ks.all fun k => !(X.K.contains k)) = true) (hd : noDef ops = true) (h : awpR ex X ops.toArray (ops.take n) (ops.drop n) Q (s.kills ks)) : awpI ro [] X (.region id ops.toArray true) Q s := by
  subst hak
  obtain ⟨s1, h1, h2⟩ := h
  exact awpI_any hm (any_region_ord n hok hK h1 h2) hQ hd
end
theorem ret_of_awpE {P : Program} {T : TypeId → Option TyD} (hT : TabOk P T) {f : FuncId} {fn : Func} {c : Code} (hf : P.funcs[f]? = some fn) (hname : (fn.name == "runtime.NumGoroutine") = false) (hb : fn.body = some c) {ds : List D} (hn : ds.length ≤ fn.ntmps) {R : D → Prop}
    (h : ∀ w0 F0, awpE ⟨P, T, hT, fn.ntmps, w0, fun _ => False, F0, [], fun _ => none⟩ c (retPost T fn R) (St.init ds)) : Ret P f ds R := by
  refine ⟨⟨fn, hf, hname, by rw [hb]; rfl⟩, fun F w vs hF hl hv => ?_⟩
  refine callsIn_wide.1 (callsIn_of_wp_marks (n := 0) hf hb trivial ?_)
  refine wpIn_mono (h w F 0 _ _ _ _ (sr_init hT hl hn hF hv)) fun e a' w' ⟨D, a0, w1, A1, F1, K1, io1, io', F', s', ea, hq, hs', hk1, hA1, hF1, hF1s, hD, hDh, hAD, hFD, hDw⟩ => ?_
  have fin : (s'.dfs = [] ∧ ∃ m C r r', resOf T m s' fn.results.toList = some (C, r) ∧ C ∧ LeD r r' ∧ R r') → LeavesInM Fence.wide 0 P fn a'.tmps (fun e w' => ∃ v r F', e = .returned v ∧ R r ∧ Below w.heap.size w w' ∧ (∀ b, F b → F' b) ∧ (∀ b, F' b → F b ∨ (w.heap.size ≤ b ∧ b < w'.heap.size)) ∧ DR F' w' r v) a'.defers .returning w' := fun ⟨hd, m, C, r, r', h1, h2, hle, h3⟩ => by
    have hDw1 : w'.heap[D]? = some (.deferred (some [])) := (hs'.kept.block D hD hAD).trans hDh
    have hFD' : ¬ F' D := fun h => by
      rcases (hs'.ff D h).2 with h | h | h
      · exact hFD h
      · have h : w1.heap.size ≤ D := h; omega
      · exact hAD h
    have ht := turn_def (r' := none) hDw1
    obtain ⟨w2, hw2⟩ : ∃ w2, w'.putObj D (.deferred none) = w2 := ⟨_, rfl⟩
    have htake := run_takeDeferred (P := P) hDw1
    rw [hw2] at ht htake
    have hs2 := hs'.rebase ht hFD'
    obtain ⟨v, hv, hd'⟩ := resOf_sound hT hs2 fn h1 h2
    have hdf := hs'.df
    rw [hd] at hdf
    have hdf : a0.defers = [] := hdf
    have hsz1 : w1.heap.size ≤ w'.heap.size := hs'.kept.size
    rw [ea]
    show LeavesInM _ _ _ _ _ _ ([{ target := .collected D, args := #[] }] ++ a0.defers) _ _
    rw [hdf]
    refine ⟨by simp, .inl ⟨D, w2, rfl, htake, ?_⟩⟩
    refine ⟨v, hv, v, r', Lent s' io' F', rfl, h3, ⟨?_, ?_, ?_, ?_, fun k hk => ?_⟩, fun b hb => .inl (hs'.f0 b (hF1 b hb)), fun b hb => ?_, hle _ _ _ hd'⟩
    · exact ht.os.trans (hs'.kept.os.trans hk1.os)
    · exact ht.tape.trans (hs'.kept.tape.trans hk1.tape)
    · exact ht.output.trans (hs'.kept.output.trans hk1.output)
    · rw [ht.size]
      have h1 : w.heap.size ≤ w1.heap.size := hk1.size
      omega
    · have h1 : w.heap.size ≤ w1.heap.size := hk1.size
      have h2 : w.heap.size ≤ D := hDw
      refine (ht.other k (by omega)).trans ((hs'.kept.block k (by show k < w1.heap.size; omega) fun h => ?_).trans (hk1.block k hk fun h => h))
      rcases hA1 k h with h | h
      · exact h
      · have h : w.heap.size ≤ k := h
        omega
    · obtain ⟨q1, q2⟩ := hs'.lentIn hb
      have h1 : w.heap.size ≤ w1.heap.size := hk1.size
      have q1' : b < w2.heap.size := by rw [ht.size]; exact q1
      rcases q2 with h | h | h
      · rcases hF1s b h with h | h | h
        · exact .inl h
        · exact .inr ⟨h, q1'⟩
        · exact h.elim
      · have h : w1.heap.size ≤ b := h
        exact .inr ⟨by omega, q1'⟩
      · rcases hA1 b h with h | h
        · exact h.elim
        · exact .inr ⟨h, q1'⟩
  cases e <;> simp only [retPost] at hq <;> first | exact hq.elim | exact fin hq
theorem vra_toD {io : Keys} {F : Nat → Prop} {w : World} {g : Nat → Option Value} : ∀ {ds : List D} {off : Nat}, VRA io F w g off (ds.map V.d) → DRA F w g off ds
  | [], _, _ => by simp only [DRA]
  | x :: xs, off, h => by
    simp only [List.map_cons, VRA, VR] at h
    simp only [DRA]
    exact ⟨h.1, vra_toD h.2⟩
theorem Conv.box {X : Ctx} {s : St} (k : Nat) {ty : TypeId} {cs : List D} (cs' : List D) (hk : s.blk k = some (.box ty (cs.map V.d))) (hle : LeL cs cs') : Conv X s (s.withBlk k (.box ty (cs'.map V.d))) := fun io F a w hs => by
  have hb : ∀ j, (s.withBlk k (.box ty (cs'.map V.d))).blk j = none ↔ s.blk j = none := fun j => by
    by_cases e : j = k
    · subst e; rw [withBlk_same, hk]; simp
    · rw [withBlk_ne e]
  have hln : (s.withBlk k (.box ty (cs'.map V.d))).ln = s.ln := by
    funext j
    by_cases e : j = k
    · subst e; rw [ln_of withBlk_same, ln_of hk]; rfl
    · unfold St.ln; rw [withBlk_ne e]
  have hkeys : (s.withBlk k (.box ty (cs'.map V.d))).keys io = s.keys io := by unfold St.keys; rw [hln]
  refine ⟨io, F, hs.kept, fun t => by rw [hkeys]; exact hs.tm t, hs.nt, by rw [hkeys]; exact hs.df, fun j b hj => ?_, fun j j' b e1 e2 => hs.inj j j' b (fun h => e1 ((hb j).2 h)) (fun h => e2 ((hb j').2 h)), hs.ff, hs.f0, hs.st⟩
  rw [hkeys]
  by_cases e : j = k
  · subst e
    rw [withBlk_same] at hj
    cases hj
    have := hs.bl j _ hk
    simp only [BR] at this ⊢
    obtain ⟨b, arr, g1, g2, g3, g4, g5⟩ := this
    exact ⟨b, arr, g1, g2, g3, g4, DRA.toV (hle.2 _ _ _ _ (vra_toD g5))⟩
  · rw [withBlk_ne e] at hj
    exact hs.bl j b hj
theorem awpEB_conv {X : Ctx} {b rest : Code} {Q : Exit → St → Prop} {s s' : St} (hc : Conv X s s') (h : awpEB X b rest Q s') : awpEB X b rest Q s := fun n io F a w hs => by
  obtain ⟨io', F', hs'⟩ := hc io F a w hs
  exact h n io' F' a w hs'
theorem awp_conv {X : Ctx} {c : Code} {Q : Exit → St → Prop} {s s' : St} (hc : Conv X s s') (h : awp X c Q s') : awp X c Q s := fun io F a w hs => by
  obtain ⟨io', F', hs'⟩ := hc io F a w hs
  exact h io' F' a w hs'
theorem awpEB_slots {X : Ctx} {b rest : Code} {Q : Exit → St → Prop} {s : St} (ts : List (Nat × V)) (bs : List (Nat × Blk)) (ht : AllT s ts) (hb : AllB s bs) (h : awpEB X b rest Q (St.of ts bs)) (hc : (coverT bs ts && coverB bs bs) = true := by rfl) : awpEB X b rest Q s := fun n io F a w hs => h n io F a w (hs.slots ht hb hc)
end Go.Vw

/-
  Polynomials as lists of coefficients: trimming, sums, products, values. Conditions: as each says.
-/
namespace Go.Vw
def cf (p : List Rat) (i : Nat) : Rat := p.getD i 0
@[simp] theorem cf_nil (i : Nat) : cf [] i = 0 := rfl
@[simp] theorem cf_zero (a : Rat) (p : List Rat) : cf (a :: p) 0 = a := rfl
@[simp] theorem cf_succ (a : Rat) (p : List Rat) (i : Nat) : cf (a :: p) (i + 1) = cf p i := rfl
theorem cf_ge {p : List Rat} {i : Nat} (h : p.length ≤ i) : cf p i = 0 := by simp [cf, List.getD_eq_getElem?_getD, h]
theorem cf_eq {p : List Rat} {i : Nat} (h : i < p.length) : cf p i = p[i] := by simp [cf, List.getD_eq_getElem?_getD, h]
theorem cf_take {p : List Rat} {i n : Nat} : cf (p.take n) i = if i < n then cf p i else 0 := by
  unfold cf
  rw [List.getD_eq_getElem?_getD, List.getD_eq_getElem?_getD, List.getElem?_take]
  split <;> rfl
def Eqv (p q : List Rat) : Prop := ∀ i, cf p i = cf q i
theorem Eqv.refl (p : List Rat) : Eqv p p := fun _ => rfl
theorem Eqv.symm {p q : List Rat} (h : Eqv p q) : Eqv q p := fun i => (h i).symm
theorem Eqv.trans {p q r : List Rat} (h : Eqv p q) (k : Eqv q r) : Eqv p r := fun i => (h i).trans (k i)
def trimP : List Rat → List Rat
  | [] => []
  | a :: p => match trimP p with
    | [] => if a = 0 then [] else [a]
    | b :: q => a :: b :: q
theorem cf_trim : ∀ (p : List Rat) (i : Nat), cf (trimP p) i = cf p i
  | [], i => rfl
  | a :: p, i => by
    have ih := cf_trim p
    unfold trimP
    split
    · rename_i h
      rw [h] at ih
      split
      · rename_i ha
        subst ha
        cases i with
        | zero => rfl
        | succ i => rw [cf_succ, ← ih]; rfl
      · cases i with
        | zero => rfl
        | succ i => rw [cf_succ, cf_succ, ← ih]
    · rename_i b q h
      rw [h] at ih
      cases i with
      | zero => rfl
      | succ i => rw [cf_succ, cf_succ]; exact ih i
theorem trim_eqv (p : List Rat) : Eqv (trimP p) p := cf_trim p
def Tr (p : List Rat) : Prop := p ≠ [] → cf p (p.length - 1) ≠ 0
theorem Tr.nil : Tr [] := fun h => absurd rfl h
theorem tr_trim : ∀ (p : List Rat), Tr (trimP p)
  | [] => Tr.nil
  | a :: p => by
    have ih := tr_trim p
    unfold trimP
    split
    · split
      · exact Tr.nil
      · rename_i h; exact fun _ => h
    · rename_i b q h
      rw [h] at ih
      intro _
      have := ih (by simp)
      simpa using this
theorem Tr.cf {p : List Rat} (h : Tr p) (h0 : 0 < p.length) : cf p (p.length - 1) ≠ 0 := h (fun e => by rw [e] at h0; simp at h0)
theorem Tr.len_le {p q : List Rat} (h : Tr p) (k : ∀ i, q.length ≤ i → Vw.cf p i = 0) : p.length ≤ q.length := by
  refine Nat.le_of_not_lt fun hl => ?_
  exact h.cf (by omega) (k _ (by omega))
theorem Tr.len_lt {p : List Rat} {n : Nat} (h : Tr p) (k : ∀ i, n ≤ i → Vw.cf p i = 0) : p.length ≤ n := by
  refine Nat.le_of_not_lt fun hl => ?_
  exact h.cf (by omega) (k _ (by omega))
theorem Tr.ext {p q : List Rat} (hp : Tr p) (hq : Tr q) (h : Eqv p q) : p = q := by
  have e : p.length = q.length := Nat.le_antisymm (hp.len_le fun i hi => by rw [h i]; exact cf_ge hi) (hq.len_le fun i hi => by rw [← h i]; exact cf_ge hi)
  refine List.ext_getElem e fun i h1 h2 => ?_
  have := h i
  rwa [cf_eq h1, cf_eq h2] at this
theorem trim_ext {p q : List Rat} (h : Eqv p q) : trimP p = trimP q := (tr_trim p).ext (tr_trim q) fun i => by rw [cf_trim, cf_trim, h i]
theorem trim_of {p : List Rat} (h : Tr p) : trimP p = p := (tr_trim p).ext h (trim_eqv p)
theorem trim_trim (p : List Rat) : trimP (trimP p) = trimP p := trim_of (tr_trim p)
theorem trim_len (p : List Rat) : (trimP p).length ≤ p.length := (tr_trim p).len_le fun i hi => by rw [cf_trim]; exact cf_ge hi
theorem trim_take {p : List Rat} {n : Nat} (hn : n ≤ p.length) (h1 : ∀ i, n ≤ i → i < p.length → cf p i = 0) (h2 : 0 < n → cf p (n - 1) ≠ 0) : trimP p = p.take n := by
  refine (tr_trim p).ext (fun h => ?_) fun i => ?_
  · have hl : (p.take n).length = n := by rw [List.length_take]; omega
    have h0 : 0 < n := Nat.pos_of_ne_zero fun e => h (by subst e; simp)
    rw [hl, cf_take, if_pos (by omega)]
    exact h2 h0
  · rw [cf_trim, cf_take]
    split
    · rfl
    · by_cases hi : i < p.length
      · exact h1 i (by omega) hi
      · exact cf_ge (by omega)
theorem trim_nil_iff (p : List Rat) : trimP p = [] ↔ ∀ i, cf p i = 0 := ⟨fun h i => by rw [← cf_trim, h]; rfl, fun h => (tr_trim p).ext Tr.nil fun i => by rw [cf_trim, h i]; rfl⟩
theorem trim_mem {p : List Rat} {x : Rat} (h : x ∈ trimP p) : x ∈ p := by
  obtain ⟨i, hi, rfl⟩ := List.mem_iff_getElem.1 h
  have hl := trim_len p
  have := cf_trim p i
  rw [cf_eq hi, cf_eq (by omega)] at this
  rw [this]; exact List.getElem_mem _
/-! ## Values -/
def evalP : List Rat → Rat → Rat
  | [], _ => 0
  | a :: p, x => evalP p x * x + a
theorem eval_zero : ∀ {p : List Rat} (x : Rat), (∀ i, cf p i = 0) → evalP p x = 0
  | [], x, _ => rfl
  | a :: p, x, h => by
    have h0 := h 0
    rw [cf_zero] at h0
    rw [evalP, eval_zero x (fun i => by have := h (i + 1); rwa [cf_succ] at this), h0]
    grind
theorem eval_ext : ∀ {p q : List Rat} (x : Rat), Eqv p q → evalP p x = evalP q x
  | [], q, x, h => (eval_zero (p := q) x (fun i => (h i).symm)).symm
  | a :: p, [], x, h => eval_zero (p := a :: p) x (fun i => h i)
  | a :: p, b :: q, x, h => by
    have h0 : a = b := h 0
    have ih := eval_ext (p := p) (q := q) x (fun i => h (i + 1))
    rw [evalP, evalP, ih, h0]
theorem eval_trim (p : List Rat) (x : Rat) : evalP (trimP p) x = evalP p x := eval_ext x (trim_eqv p)
/-! ## Sums and multiples, with zeros at the end -/
def addC : List Rat → List Rat → List Rat
  | [], q => q
  | p, [] => p
  | a :: p, b :: q => (a + b) :: addC p q
def smul (c : Rat) (p : List Rat) : List Rat := p.map (c * ·)
def shiftP (k : Nat) (p : List Rat) : List Rat := List.replicate k 0 ++ p
def negC (p : List Rat) : List Rat := smul (-1) p
def subC (p q : List Rat) : List Rat := addC p (negC q)
theorem cf_add : ∀ (p q : List Rat) (i : Nat), cf (addC p q) i = cf p i + cf q i
  | [], q, i => by simp only [addC, cf_nil]; grind
  | a :: p, [], i => by simp only [addC, cf_nil]; grind
  | a :: p, b :: q, 0 => by simp [addC]
  | a :: p, b :: q, i + 1 => by simp only [addC, cf_succ]; exact cf_add p q i
theorem cf_smul (c : Rat) : ∀ (p : List Rat) (i : Nat), cf (smul c p) i = c * cf p i
  | [], i => by simp [smul, Rat.mul_zero]
  | a :: p, 0 => by simp [smul]
  | a :: p, i + 1 => by have := cf_smul c p i; simpa [smul] using this
theorem cf_neg (p : List Rat) (i : Nat) : cf (negC p) i = - cf p i := by rw [negC, cf_smul]; grind
theorem cf_sub (p q : List Rat) (i : Nat) : cf (subC p q) i = cf p i - cf q i := by rw [subC, cf_add, cf_neg]; grind
theorem cf_shift (k : Nat) (p : List Rat) (i : Nat) : cf (shiftP k p) i = if i < k then 0 else cf p (i - k) := by
  unfold cf shiftP
  rw [List.getD_eq_getElem?_getD, List.getD_eq_getElem?_getD]
  split
  · rename_i h
    rw [List.getElem?_append_left (by simpa using h)]
    simp [h]
  · rename_i h
    rw [List.getElem?_append_right (by simp; omega)]
    simp
theorem eval_add : ∀ (p q : List Rat) (x : Rat), evalP (addC p q) x = evalP p x + evalP q x
  | [], q, x => by simp only [addC, evalP]; grind
  | a :: p, [], x => by simp only [addC, evalP]; grind
  | a :: p, b :: q, x => by simp only [addC, evalP, eval_add p q x]; grind
theorem eval_smul (c : Rat) : ∀ (p : List Rat) (x : Rat), evalP (smul c p) x = c * evalP p x
  | [], x => by simp [smul, evalP, Rat.mul_zero]
  | a :: p, x => by
    have ih := eval_smul c p x
    simp only [smul, List.map_cons, evalP] at ih ⊢
    rw [ih]; grind
theorem eval_sub (p q : List Rat) (x : Rat) : evalP (subC p q) x = evalP p x - evalP q x := by rw [subC, eval_add, negC, eval_smul]; grind
/-! ## Products -/
def mulC : List Rat → List Rat → List Rat
  | [], _ => []
  | a :: p, q => addC (smul a q) (0 :: mulC p q)
theorem eval_mul : ∀ (p q : List Rat) (x : Rat), evalP (mulC p q) x = evalP p x * evalP q x
  | [], q, x => by simp only [mulC, evalP]; grind
  | a :: p, q, x => by simp only [mulC, eval_add, eval_smul, evalP, eval_mul p q x]; grind
theorem cf_mul0 (a : Rat) (p q : List Rat) : cf (mulC (a :: p) q) 0 = a * cf q 0 := by simp only [mulC, cf_add, cf_smul, cf_zero]; grind
theorem cf_mulS (a : Rat) (p q : List Rat) (i : Nat) : cf (mulC (a :: p) q) (i + 1) = a * cf q (i + 1) + cf (mulC p q) i := by simp only [mulC, cf_add, cf_smul, cf_succ]
theorem mul_zero_r : ∀ (p : List Rat) (q : List Rat), (∀ i, cf q i = 0) → ∀ i, cf (mulC p q) i = 0
  | [], q, h, i => rfl
  | a :: p, q, h, 0 => by rw [cf_mul0, h]; grind
  | a :: p, q, h, i + 1 => by rw [cf_mulS, h, mul_zero_r p q h]; grind
theorem mul_eqv_r : ∀ (p : List Rat) {q q' : List Rat}, Eqv q q' → Eqv (mulC p q) (mulC p q')
  | [], q, q', h => Eqv.refl _
  | a :: p, q, q', h => fun i => by
    cases i with
    | zero => rw [cf_mul0, cf_mul0, h]
    | succ i => rw [cf_mulS, cf_mulS, h, mul_eqv_r p h i]
theorem mul_cons_r : ∀ (p : List Rat) (b : Rat) (q : List Rat), Eqv (mulC p (b :: q)) (addC (smul b p) (0 :: mulC p q))
  | [], b, q, i => by
    rw [cf_add]
    cases i <;> simp [mulC, smul] <;> grind
  | a :: p, b, q, 0 => by simp only [cf_mul0, cf_add, cf_smul, cf_zero]; grind
  | a :: p, b, q, i + 1 => by
    have ih := mul_cons_r p b q i
    rw [cf_add, cf_smul] at ih
    rw [cf_mulS, cf_add, cf_smul, cf_succ, cf_succ, cf_succ, ih]
    cases i with
    | zero => rw [cf_mul0, cf_zero]; grind
    | succ i => rw [cf_mulS, cf_succ]; grind
theorem mul_comm_eqv : ∀ (p q : List Rat), Eqv (mulC p q) (mulC q p)
  | [], q, i => by rw [mul_zero_r q [] (fun _ => rfl)]; rfl
  | a :: p, q, i => by
    have h := mul_cons_r q a p i
    have ih := mul_comm_eqv p q
    rw [h]
    cases i with
    | zero => simp only [cf_mul0, cf_add, cf_smul, cf_zero]; grind
    | succ i => rw [cf_mulS, cf_add, cf_smul, cf_succ, ih i]
theorem mul_eqv_l {p p' : List Rat} (q : List Rat) (h : Eqv p p') : Eqv (mulC p q) (mulC p' q) := ((mul_comm_eqv p q).trans (mul_eqv_r q h)).trans (mul_comm_eqv q p')
theorem mul_add_r : ∀ (p q r : List Rat), Eqv (mulC p (addC q r)) (addC (mulC p q) (mulC p r))
  | [], q, r, i => by simp only [mulC, cf_nil, cf_add]; grind
  | a :: p, q, r, 0 => by simp only [cf_mul0, cf_add]; grind
  | a :: p, q, r, i + 1 => by rw [cf_add, cf_mulS, cf_mulS, cf_mulS, mul_add_r p q r i, cf_add, cf_add]; grind
theorem mul_add_l (p q r : List Rat) : Eqv (mulC (addC p q) r) (addC (mulC p r) (mulC q r)) := fun i => by
  rw [mul_comm_eqv, mul_add_r, cf_add, cf_add, mul_comm_eqv r p, mul_comm_eqv r q]
theorem mul_smul_l (c : Rat) : ∀ (p q : List Rat), Eqv (mulC (smul c p) q) (smul c (mulC p q))
  | [], q, i => by simp [smul, mulC]
  | a :: p, q, 0 => by simp only [smul, List.map_cons, cf_mul0]; rw [← smul, cf_smul, cf_mul0]; grind
  | a :: p, q, i + 1 => by
    have ih := mul_smul_l c p q i
    rw [cf_smul] at ih
    simp only [smul, List.map_cons] at ih ⊢
    rw [cf_mulS, ih, ← smul, cf_smul, cf_mulS]; grind
theorem mul_smul_r (c : Rat) (p q : List Rat) : Eqv (mulC p (smul c q)) (smul c (mulC p q)) := fun i => by
  rw [mul_comm_eqv, mul_smul_l, cf_smul, cf_smul, mul_comm_eqv]
theorem mul_shift_l : ∀ (k : Nat) (p q : List Rat), Eqv (mulC (shiftP k p) q) (shiftP k (mulC p q))
  | 0, p, q => fun i => by simp [shiftP]
  | k + 1, p, q => fun i => by
    have e : ∀ (p : List Rat), shiftP (k + 1) p = 0 :: shiftP k p := fun p => by simp [shiftP, List.replicate_succ]
    rw [e, e]
    cases i with
    | zero => rw [cf_mul0, cf_zero]; grind
    | succ i => rw [cf_mulS, cf_succ, mul_shift_l k p q i]; grind
theorem mul_assoc_eqv : ∀ (p q r : List Rat), Eqv (mulC (mulC p q) r) (mulC p (mulC q r))
  | [], q, r, i => rfl
  | a :: p, q, r, i => by
    have h1 : Eqv (mulC (mulC (a :: p) q) r) (addC (mulC (smul a q) r) (mulC (0 :: mulC p q) r)) := mul_add_l _ _ _
    rw [h1, cf_add, mul_smul_l, cf_smul]
    cases i with
    | zero => rw [cf_mul0, cf_mul0]; grind
    | succ i => rw [cf_mulS, cf_mulS, mul_assoc_eqv p q r i]; grind
theorem mul_const (c : Rat) (q : List Rat) : Eqv (mulC [c] q) (smul c q) := fun i => by
  simp only [mulC, cf_add, cf_smul]
  cases i <;> simp <;> grind
theorem add_eqv {p p' q q' : List Rat} (h : Eqv p p') (k : Eqv q q') : Eqv (addC p q) (addC p' q') := fun i => by rw [cf_add, cf_add, h i, k i]
theorem shift_eqv {k : Nat} {p p' : List Rat} (h : Eqv p p') : Eqv (shiftP k p) (shiftP k p') := fun i => by rw [cf_shift, cf_shift, h (i - k)]
/-! ## The highest coefficient of a product -/
theorem mul_high : ∀ (p q : List Rat) (m n : Nat), (∀ i, m < i → cf p i = 0) → (∀ i, n < i → cf q i = 0) → cf (mulC p q) (m + n) = cf p m * cf q n ∧ ∀ i, m + n < i → cf (mulC p q) i = 0
  | [], q, m, n, h1, h2 => by simp [mulC, Rat.zero_mul]
  | a :: p, q, 0, n, h1, h2 => by
    have hp : ∀ i, cf p i = 0 := fun i => by have := h1 (i + 1) (by omega); rwa [cf_succ] at this
    have hz : ∀ i, cf (mulC p q) i = 0 := fun i => by rw [mul_comm_eqv]; exact mul_zero_r q p hp i
    refine ⟨?_, fun i hi => ?_⟩
    · rw [Nat.zero_add]
      cases n with
      | zero => rw [cf_mul0]; rfl
      | succ n => rw [cf_mulS, hz, cf_zero]; grind
    · cases i with
      | zero => omega
      | succ i => rw [cf_mulS, hz, h2 _ (by omega)]; grind
  | a :: p, q, m + 1, n, h1, h2 => by
    obtain ⟨e1, e2⟩ := mul_high p q m n (fun i hi => by have := h1 (i + 1) (by omega); rwa [cf_succ] at this) h2
    refine ⟨?_, fun i hi => ?_⟩
    · rw [show m + 1 + n = (m + n) + 1 by omega, cf_mulS, e1, h2 _ (by omega), cf_succ]; grind
    · cases i with
      | zero => omega
      | succ i => rw [cf_mulS, e2 _ (by omega), h2 _ (by omega)]; grind
theorem mul_len {p q : List Rat} (hp : Tr p) (hq : Tr q) (p0 : 0 < p.length) (q0 : 0 < q.length) : (trimP (mulC p q)).length = p.length + q.length - 1 ∧ cf (mulC p q) (p.length + q.length - 2) = cf p (p.length - 1) * cf q (q.length - 1) := by
  obtain ⟨e1, e2⟩ := mul_high p q (p.length - 1) (q.length - 1) (fun i hi => cf_ge (by omega)) (fun i hi => cf_ge (by omega))
  have h1 := hp.cf p0
  have h2 := hq.cf q0
  rw [show p.length - 1 + (q.length - 1) = p.length + q.length - 2 by omega] at e1 e2
  have hne : cf (mulC p q) (p.length + q.length - 2) ≠ 0 := by
    rw [e1]; intro h
    rcases Rat.mul_eq_zero.1 h with h | h
    · exact h1 h
    · exact h2 h
  refine ⟨Nat.le_antisymm ((tr_trim _).len_lt fun i hi => by rw [cf_trim]; exact e2 i (by omega)) (Nat.le_of_not_lt fun hl => hne ?_), e1⟩
  rw [← cf_trim]; exact cf_ge (by omega)
end Go.Vw

/-
  Polynomials: division with remainder, the derivative, the greatest common divisor. Conditions: as each says.
-/
namespace Go.Vw
def lead (p : List Rat) : Rat := cf p (p.length - 1)
theorem lead_ne {p : List Rat} (h : Tr p) (h0 : p ≠ []) : lead p ≠ 0 := h h0
theorem len_smul (c : Rat) (p : List Rat) : (smul c p).length = p.length := by simp [smul]
theorem tr_smul {c : Rat} {p : List Rat} (hc : c ≠ 0) (h : Tr p) : Tr (smul c p) := fun h0 => by
  rw [len_smul, cf_smul]
  intro e
  rcases Rat.mul_eq_zero.1 e with e | e
  · exact hc e
  · exact h (fun e => h0 (by rw [e]; rfl)) e
theorem lead_smul (c : Rat) (p : List Rat) : lead (smul c p) = c * lead p := by unfold lead; rw [len_smul, cf_smul]
theorem smul_smul (a b : Rat) (p : List Rat) : smul a (smul b p) = smul (a * b) p := by
  unfold smul; rw [List.map_map]; refine List.map_congr_left fun x _ => ?_
  simp only [Function.comp]; grind
theorem smul_one (p : List Rat) : smul 1 p = p := by
  unfold smul
  have : (fun x : Rat => 1 * x) = id := by funext x; simp [Rat.one_mul]
  rw [this, List.map_id]
theorem smul_eq_nil {c : Rat} {p : List Rat} : smul c p = [] ↔ p = [] := by unfold smul; exact List.map_eq_nil_iff
theorem ne_len {p : List Rat} (h : p ≠ []) : 0 < p.length := List.length_pos_iff.2 h
def remK (r d : List Rat) : Nat := r.length - d.length
def remC (r d : List Rat) : Rat := lead r / lead d
def stepRP (r d : List Rat) : List Rat := trimP (subC r (shiftP (remK r d) (smul (remC r d) d)))
def stepQP (q r d : List Rat) : List Rat := trimP (addC q (shiftP (remK r d) [remC r d]))
theorem cf_stepRP (r d : List Rat) (i : Nat) : cf (stepRP r d) i = cf r i - (if i < remK r d then 0 else remC r d * cf d (i - remK r d)) := by
  unfold stepRP; rw [cf_trim, cf_sub, cf_shift]; split
  · rfl
  · rw [cf_smul]
theorem stepRP_len {r d : List Rat} (hr : Tr r) (hd : Tr d) (d0 : d ≠ []) (h : d.length ≤ r.length) : (stepRP r d).length < r.length := by
  have h0 := ne_len d0
  have := (show Tr (stepRP r d) from tr_trim _).len_lt (n := r.length - 1) fun i hi => by
    rw [cf_stepRP]
    by_cases e : i = r.length - 1
    · subst e
      rw [if_neg (by unfold remK; omega)]
      have e2 : r.length - 1 - remK r d = d.length - 1 := by unfold remK; omega
      rw [e2]
      have hl := lead_ne hd d0
      unfold remC
      unfold lead at *
      grind
    · rw [cf_ge (by omega)]
      split
      · grind
      · rw [cf_ge (p := d) (by unfold remK; omega)]; grind
  omega
theorem stepRP_mul (q r d : List Rat) : Eqv (addC (mulC (stepQP q r d) d) (stepRP r d)) (addC (mulC q d) r) := fun i => by
  have h1 := mul_eqv_l d (trim_eqv (addC q (shiftP (remK r d) [remC r d]))) i
  have h2 := mul_add_l q (shiftP (remK r d) [remC r d]) d i
  have h3 := mul_shift_l (remK r d) [remC r d] d i
  have h4 := shift_eqv (k := remK r d) (mul_const (remC r d) d) i
  rw [cf_add, cf_add, cf_stepRP]
  unfold stepQP
  rw [h1, h2, cf_add, h3, h4, cf_shift]
  split
  · grind
  · rw [cf_smul]; grind
def divL : Nat → List Rat → List Rat → List Rat → List Rat × List Rat
  | 0, q, r, d => (q, r)
  | n + 1, q, r, d => if r.length < d.length then (q, r) else divL n (stepQP q r d) (stepRP r d) d
theorem divL_spec {d : List Rat} (hd : Tr d) (d0 : d ≠ []) : ∀ (n : Nat) (q r : List Rat), Tr r → r.length < n → Tr (divL n q r d).2 ∧ (divL n q r d).2.length < d.length ∧ Eqv (addC (mulC (divL n q r d).1 d) (divL n q r d).2) (addC (mulC q d) r)
  | 0, q, r, hr, h => by omega
  | n + 1, q, r, hr, h => by
    unfold divL
    split
    · rename_i h1; exact ⟨hr, h1, Eqv.refl _⟩
    · rename_i h1
      have hl := stepRP_len hr hd d0 (by omega)
      obtain ⟨a, b, c⟩ := divL_spec hd d0 n (stepQP q r d) (stepRP r d) (tr_trim _) (by omega)
      exact ⟨a, b, c.trans (stepRP_mul q r d)⟩
theorem divL_tr {d : List Rat} : ∀ (n : Nat) (q r : List Rat), Tr q → Tr (divL n q r d).1
  | 0, q, r, h => h
  | n + 1, q, r, h => by
    unfold divL; split
    · exact h
    · exact divL_tr n _ _ (tr_trim _)
def divP (p d : List Rat) : List Rat × List Rat := divL (p.length + 1) [] p d
def remP (p d : List Rat) : List Rat := (divP p d).2
theorem divP_spec {p d : List Rat} (hp : Tr p) (hd : Tr d) (d0 : d ≠ []) : Tr (divP p d).1 ∧ Tr (divP p d).2 ∧ (divP p d).2.length < d.length ∧ Eqv (addC (mulC (divP p d).1 d) (divP p d).2) p := by
  obtain ⟨a, b, c⟩ := divL_spec hd d0 (p.length + 1) [] p hp (by omega)
  refine ⟨divL_tr _ _ _ Tr.nil, a, b, c.trans fun i => ?_⟩
  rw [cf_add]; simp only [mulC, cf_nil]; grind
theorem div_unique {q r q' r' d : List Rat} (hd : Tr d) (d0 : d ≠ []) (h1 : r.length < d.length) (h2 : r'.length < d.length) (h : Eqv (addC (mulC q d) r) (addC (mulC q' d) r')) : Eqv q q' ∧ Eqv r r' := by
  have hz : trimP (subC q q') = [] := by
    refine Classical.byContradiction fun hne => ?_
    have hl := mul_len (tr_trim (subC q q')) hd (ne_len hne) (ne_len d0)
    have l1 := ne_len hne
    have l2 := ne_len d0
    have a1 := (tr_trim (subC q q')).cf l1
    have a2 := hd.cf l2
    generalize hN : (trimP (subC q q')).length + d.length - 2 = N at hl
    have e : cf (mulC (trimP (subC q q')) d) N = 0 := by
      rw [mul_eqv_l d (trim_eqv (subC q q')) N]
      have e1 : Eqv (mulC (subC q q') d) (subC (mulC q d) (mulC q' d)) := fun i => by
        have h3 : Eqv (mulC (negC q') d) (negC (mulC q' d)) := mul_smul_l (-1) q' d
        unfold subC
        rw [mul_add_l, cf_add, cf_add, h3 i]
      rw [e1 N, cf_sub]
      have := h N
      rw [cf_add, cf_add, cf_ge (p := r) (by omega), cf_ge (p := r') (by omega)] at this
      grind
    rw [hl.2] at e
    rcases Rat.mul_eq_zero.1 e with e | e
    · exact a1 e
    · exact a2 e
  have hq : Eqv q q' := fun i => by
    have := (trim_nil_iff _).1 hz i
    rw [cf_sub] at this; grind
  refine ⟨hq, fun i => ?_⟩
  have := h i
  rw [cf_add, cf_add, mul_eqv_l d hq i] at this
  grind
theorem divP_unique {p d q r : List Rat} (hp : Tr p) (hd : Tr d) (d0 : d ≠ []) (hq : Tr q) (hr : Tr r) (hl : r.length < d.length) (h : Eqv (addC (mulC q d) r) p) : divP p d = (q, r) := by
  obtain ⟨a, b, c, e⟩ := divP_spec hp hd d0
  obtain ⟨h1, h2⟩ := div_unique hd d0 c hl (e.trans h.symm)
  exact Prod.ext (a.ext hq h1) (b.ext hr h2)
/-! ## Multiples -/
theorem remP_smul {p d : List Rat} (hp : Tr p) (hd : Tr d) (d0 : d ≠ []) {a b : Rat} (ha : a ≠ 0) (hb : b ≠ 0) : remP (smul a p) (smul b d) = smul a (remP p d) := by
  obtain ⟨h1, h2, h3, h4⟩ := divP_spec hp hd d0
  have hab : a / b ≠ 0 := by
    intro h
    have : a = a / b * b := by grind
    rw [h] at this; grind
  have := divP_unique (p := smul a p) (d := smul b d) (q := smul (a / b) (divP p d).1) (r := smul a (divP p d).2) (tr_smul ha hp) (tr_smul hb hd) (by rw [ne_eq, smul_eq_nil]; exact d0) (tr_smul hab h1) (tr_smul ha h2) (by rw [len_smul, len_smul]; exact h3) (fun i => by
    rw [cf_add, mul_smul_l, cf_smul, mul_smul_r, cf_smul, cf_smul, cf_smul, ← h4 i, cf_add]
    grind)
  unfold remP
  rw [this]
def monicP (p : List Rat) : List Rat := smul (1 / lead p) p
theorem monic_smul {c : Rat} {p : List Rat} (hc : c ≠ 0) : monicP (smul c p) = monicP p := by
  unfold monicP
  rw [lead_smul, smul_smul]
  congr 1
  grind
theorem monic_nil : monicP [] = [] := rfl
theorem tr_monic {p : List Rat} (h : Tr p) : Tr (monicP p) := by
  by_cases h0 : p = []
  · subst h0; exact Tr.nil
  · have := lead_ne h h0
    exact tr_smul (by grind) h
theorem lead_monic {p : List Rat} (h : Tr p) (h0 : p ≠ []) : lead (monicP p) = 1 := by
  have := lead_ne h h0
  unfold monicP; rw [lead_smul]; grind
def gcdL : Nat → List Rat → List Rat → List Rat
  | 0, p, _ => monicP p
  | n + 1, p, q => if q = [] then monicP p else gcdL n q (remP p q)
theorem tr_rem {p d : List Rat} (hp : Tr p) (hd : Tr d) (d0 : d ≠ []) : Tr (remP p d) := (divP_spec hp hd d0).2.1
theorem rem_len {p d : List Rat} (hp : Tr p) (hd : Tr d) (d0 : d ≠ []) : (remP p d).length < d.length := (divP_spec hp hd d0).2.2.1
theorem gcdL_smul : ∀ (n : Nat) {p q : List Rat} {a b : Rat}, Tr p → Tr q → a ≠ 0 → b ≠ 0 → gcdL n (smul a p) (smul b q) = gcdL n p q
  | 0, p, q, a, b, hp, hq, ha, hb => monic_smul ha
  | n + 1, p, q, a, b, hp, hq, ha, hb => by
    unfold gcdL
    by_cases h : q = []
    · rw [if_pos h, if_pos (smul_eq_nil.2 h), monic_smul ha]
    · rw [if_neg h, if_neg (mt smul_eq_nil.1 h), remP_smul hp hq h ha hb]
      exact gcdL_smul n hq (tr_rem hp hq h) hb ha
theorem gcdL_fuel : ∀ (n m : Nat) {p q : List Rat}, Tr p → Tr q → q.length ≤ n → q.length ≤ m → gcdL n p q = gcdL m p q
  | 0, 0, p, q, _, _, _, _ => rfl
  | 0, m + 1, p, q, _, _, h, _ => by
    have : q = [] := List.eq_nil_of_length_eq_zero (by omega)
    unfold gcdL; rw [if_pos this]
  | n + 1, 0, p, q, _, _, _, h => by
    have : q = [] := List.eq_nil_of_length_eq_zero (by omega)
    unfold gcdL; rw [if_pos this]
  | n + 1, m + 1, p, q, hp, hq, h1, h2 => by
    unfold gcdL
    by_cases h : q = []
    · rw [if_pos h, if_pos h]
    · rw [if_neg h, if_neg h]
      have := rem_len hp hq h
      exact gcdL_fuel n m hq (tr_rem hp hq h) (by omega) (by omega)
def gcdP (p q : List Rat) : List Rat := gcdL q.length p q
theorem gcdP_nil (p : List Rat) : gcdP p [] = monicP p := rfl
theorem gcdP_step {p q : List Rat} (hp : Tr p) (hq : Tr q) (h : q ≠ []) {a b : Rat} (ha : a ≠ 0) (hb : b ≠ 0) : gcdP p q = gcdP (smul a q) (smul b (remP p q)) := by
  unfold gcdP
  rw [len_smul, gcdL_smul _ hq (tr_rem hp hq h) ha hb]
  obtain ⟨n, hn⟩ : ∃ n, q.length = n + 1 := ⟨q.length - 1, by have := ne_len h; omega⟩
  rw [hn]
  conv => lhs; unfold gcdL
  rw [if_neg h]
  have := rem_len hp hq h
  exact gcdL_fuel _ _ hq (tr_rem hp hq h) (by omega) (by omega)
/-! ## The derivative -/
def derC (p : List Rat) : List Rat := (p.mapIdx fun i x => (i : Rat) * x).drop 1
theorem cf_der (p : List Rat) (i : Nat) : cf (derC p) i = ((i + 1 : Nat) : Rat) * cf p (i + 1) := by
  unfold derC cf
  rw [List.getD_eq_getElem?_getD, List.getD_eq_getElem?_getD, List.getElem?_drop, List.getElem?_mapIdx, Nat.add_comm 1 i]
  cases p[i + 1]? with
  | none => simp [Rat.mul_zero]
  | some x => rfl
def derP (p : List Rat) : List Rat := trimP (derC p)
theorem derC_len (p : List Rat) : (derC p).length = p.length - 1 := by simp [derC]
/-! ## Sturm's chain -/
def chainL (ch : List Rat → List Rat) : Nat → List Rat → List Rat → List (List Rat)
  | 0, _, _ => []
  | n + 1, a, b => if a = [] then [] else if b = [] then [a] else a :: chainL ch n b (ch (negC (remP a b)))
theorem tr_neg {p : List Rat} (h : Tr p) : Tr (negC p) := tr_smul (by decide) h
end Go.Vw
