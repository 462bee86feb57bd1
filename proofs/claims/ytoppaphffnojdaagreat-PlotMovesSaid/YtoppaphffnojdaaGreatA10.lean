/-
  Contracts of functions of the program, and the layer that they are walked with: VU OrdersB OrdersC OrdersD OrdersE W20 W13 W21 W22 W23 S51 S44 OrdersF OrdersG W24. Conditions: as each says.
-/
import Derived.Test.YtoppaphffnojdaaGreatA09
/-
  Drawn regions by the sets of operations that have been carried out; lists that are appended to beside other work. Conditions: the table of types is the program's.
-/
set_option linter.unusedSimpArgs false
set_option linter.unusedVariables false
set_option linter.unusedSectionVars false
namespace Go.Vw
open Go.RowKit
def insL (L : Nat → Bool) (i : Nat) : Nat → Bool := fun j => bif Nat.beq j i then true else L j
theorem awp_region_gen {X : Ctx} (hm : X.P.follows .mixedOrders = true) {id : Nat} {ops : List Oper} (n : Nat) (tf : TailFacts ops.toArray n) (A : (Nat → Bool) → St) {Q : Exit → St → Prop} {s s1 : St} (h0 : A (fun _ => false) = s) (h1 : ∀ L, (∀ j, j < n → L j = true) → (∀ j, L j = true → j < n) → A L = s1)
    (step : ∀ (L : Nat → Bool) (i : Nat) (o : Oper), i < n → ops.toArray[i]? = some o → L i = false → (∀ j, L j = true → j < n) → (∀ j, j < i → ((masks ops.toArray.toList []).getD i 0).testBit j = true → L j = true) → (∀ j, L j = true → ∀ k, ((masks ops.toArray.toList []).getD j 0).testBit k = true → L k = true) → E1 X ops.toArray (A L) o (A (insL L i)))
    (htail : awpL X ops.toArray (ops.drop n) Q s1) : awp X (.region id ops.toArray true) Q s := by
  intro io F0 a0 w0 hs
  refine wp_region_any hm ?_
  have hle := tf.le
  have hsz : ops.toArray.size = ops.length := rfl
  have getn : ∀ j, j < n → ∃ o, ops.toArray[j]? = some o := fun j hj => ⟨_, Array.getElem?_eq_getElem (by omega)⟩
  have key : ∀ (u fuel : Nat) (listed : Array Bool) (io : Nat → Option Nat) (F : Nat → Prop) (a : Act) (w : World), (List.range n).countP (fun j => !listed.getD j false) ≤ u → u + (ops.toArray.size - n) ≤ fuel → listed.size = ops.toArray.size →
      (∀ j, listed.getD j false = true → j < n) → (∀ i o, ops.toArray[i]? = some o → listed.getD i false = true → ∀ e ∈ o.after, Region.binds .any e = true → listed.getD e.on false = true) →
      SR X io F (A (fun j => listed.getD j false)) a w → wpAny X.P .any ops.toArray (lift X Q) fuel listed a w := by
    intro u
    induction u with
    | zero =>
      intro fuel listed io F a w hu hfu hsize htl hcl hsr
      have hall : ∀ j, j < n → listed.getD j false = true := fun j hj => by
        have := List.countP_eq_zero.1 (Nat.le_zero.1 hu) j (by simpa using hj)
        simpa using this
      refine wpAny_tail tf (ops.toArray.size - n) n fuel listed a w (Nat.le_refl _) (by omega) (by omega) hsize (fun j => ⟨htl j, hall j⟩) ?_
      rw [h1 _ hall htl] at hsr
      exact htail _ _ _ _ hsr
    | succ u ih =>
      intro fuel listed io F a w hu hfu hsize htl hcl hsr
      by_cases hall : ∀ j, j < n → listed.getD j false = true
      · have h0 : (List.range n).countP (fun j => !listed.getD j false) = 0 := List.countP_eq_zero.2 fun j hj => by simp only [List.mem_range] at hj; simp [hall j hj]
        exact ih fuel listed io F a w (by omega) (by omega) hsize htl hcl hsr
      · have hex : ∃ j, j < n ∧ listed.getD j false ≠ true ∧ ∀ k, k < j → listed.getD k false = true := by
          have : ∃ j, j < n ∧ listed.getD j false ≠ true := by
            rcases Classical.em (∃ j, j < n ∧ listed.getD j false ≠ true) with h | h
            · exact h
            · exact absurd (fun j hj => Classical.byContradiction fun hne => h ⟨j, hj, hne⟩) hall
          obtain ⟨j, hj⟩ := this
          induction j using Nat.strongRecOn with
          | _ j ihj =>
            by_cases hk : ∃ k, k < j ∧ listed.getD k false ≠ true
            · obtain ⟨k, hk1, hk2⟩ := hk
              exact ihj k hk1 ⟨by omega, hk2⟩
            · exact ⟨j, hj.1, hj.2, fun k hk1 => Classical.byContradiction fun h => hk ⟨k, hk1, h⟩⟩
        obtain ⟨j0, hj0, hnl, hless⟩ := hex
        cases fuel with
        | zero => omega
        | succ fuel =>
          obtain ⟨o0, ho0⟩ := getn j0 hj0
          have hready0 : j0 ∈ Region.ready .any ops.toArray listed := mem_ready.2 ⟨by
              simp [show j0 < listed.size by omega] at hnl ⊢
              exact hnl, o0, ho0, fun e he hb => hless _ (tf.back j0 o0 ho0 e he hb)⟩
          refine ⟨fun hnil => (by rw [hnil] at hready0; cases hready0), fun i hi => ?_⟩
          obtain ⟨h0, o, ho, hpre⟩ := mem_ready.1 hi
          have hilt := (Array.getElem?_eq_some_iff.1 ho).1
          have hspec : ∀ j, ((masks ops.toArray.toList []).getD i 0).testBit j = true → listed.getD j false = true ∨ j = i := fun j hbit =>
            masks_spec (fun j => listed.getD j false = true ∨ j = i) ops.toArray.toList [] 0 rfl (fun i h => by simp at h) (fun k' o' h1 h2 e he hb => by
              rcases h2 with h2 | h2
              · left; exact hcl k' o' (by simpa using h1) (by simpa using h2) e he hb
              · left
                simp only [Nat.zero_add] at h2
                subst h2
                have : o' = o := by
                  have h1' : ops.toArray[k']? = some o' := by simpa using h1
                  rw [ho] at h1'; cases h1'; rfl
                subst this
                exact hpre e he hb) (fun k' o' h1 e he hb => by simpa using tf.back k' o' (by simpa using h1) e he hb) i (.inr rfl) j hbit
          have hin : i < n := by
            rcases Nat.lt_or_ge i n with h' | h'
            · exact h'
            · rcases hspec j0 (tf.tail i h' hilt j0 (by omega)) with h | h
              · exact absurd h hnl
              · omega
          have hclm : ∀ j, listed.getD j false = true → ∀ k, ((masks ops.toArray.toList []).getD j 0).testBit k = true → listed.getD k false = true := fun j hj k hk =>
            masks_spec (fun j => listed.getD j false = true) ops.toArray.toList [] 0 rfl (fun i h => by simp at h) (fun k' o' h1 h2 e he hb => hcl k' o' (by simpa using h1) (by simpa using h2) e he hb) (fun k' o' h1 e he hb => by simpa using tf.back k' o' (by simpa using h1) e he hb) j hj k hk
          have hunl : listed.getD i false = false := by
            simp [show i < listed.size by omega] at h0 ⊢
            exact h0
          have hs2 := step (fun j => listed.getD j false) i o hin ho hunl htl (fun j hji hbit => by
            rcases hspec j hbit with h | h
            · exact h
            · omega) hclm io F a w hsr (wpAny X.P .any ops.toArray (lift X Q) fuel (listed.setIfInBounds i true)) (lift X Q) fun io' F' a' w' hs' => by
            have hins : A (insL (fun j => listed.getD j false) i) = A (fun j => (listed.setIfInBounds i true).getD j false) := by
              congr 1
              funext j
              unfold insL
              by_cases e : j = i
              · subst e; simp [getD_set_self (show j < listed.size by omega)]
              · rw [getD_set_ne false (Ne.symm e)]; simp [e]
            rw [hins] at hs'
            refine ih fuel _ io' F' a' w' ?_ (by omega) (by simpa using hsize) (fun j hj => ?_) (fun k ok hk hlk e he hb => ?_) hs'
            · have := countP_lt (p := fun j => !listed.getD j false) (q := fun j => !(listed.setIfInBounds i true).getD j false) (i := i) (by simp [hunl]) (by simp [getD_set_self (show i < listed.size by omega)]) (fun j hj => by
                by_cases e : j = i
                · subst e; simp [hunl]
                · rw [getD_set_ne false (Ne.symm e)] at hj; exact hj) (l := List.range n) (by simpa using hin)
              omega
            · by_cases e : j = i
              · rw [e]; exact hin
              · rw [getD_set_ne false (Ne.symm e)] at hj; exact htl j hj
            · by_cases e' : k = i
              · subst e'
                rw [ho] at hk; cases hk
                exact getD_set_true (hpre e he hb)
              · rw [getD_set_ne false (Ne.symm e')] at hlk
                exact getD_set_true (hcl k ok hk hlk e he hb)
          unfold wpOp
          simp only [ho]
          exact hs2
  have hdr : SR X io F0 (A (fun j => (Array.replicate ops.toArray.size false).getD j false)) a0 w0.drew := by
    have e : (fun j => (Array.replicate ops.toArray.size false).getD j false) = fun _ => false := by
      funext j
      simp only [Array.getD_eq_getD_getElem?, Array.getElem?_replicate]
      split <;> rfl
    rw [e, h0]
    exact hs.drew
  refine key n ops.toArray.size _ io F0 a0 w0.drew ?_ (by omega) (by simp) (fun j hj => ?_) (fun i o ho hl => ?_) hdr
  · exact Nat.le_trans List.countP_le_length (by simp)
  · simp only [Array.getD_eq_getD_getElem?, Array.getElem?_replicate] at hj
    split at hj <;> simp at hj
  · simp only [Array.getD_eq_getD_getElem?, Array.getElem?_replicate] at hl
    split at hl <;> simp at hl

/-! ## Appends -/

def isApp (o : Oper) : Bool := match o.op with | .call c => (match c.callee with | .builtin .append => true | _ => false) | _ => false
def conflA (all : Array Oper) (a b : Oper) : Bool := looksB all b a.dst || looksB all a b.dst || (match a.dst, b.dst with | some x, some y => x == y | _, _ => false) || (isApp a && isApp b)
def ordA (ops : Array Oper) (n : Nat) : Bool :=
  backward ops && Nat.ble n ops.size &&
  ((List.range n).all fun j => match ops[j]? with
    | some b => (List.range j).all fun i => match ops[i]? with
      | some a => !(conflA ops a b) || ((masks ops.toList []).getD j 0).testBit i
      | none => false
    | none => false) &&
  ((List.range ops.size).all fun i => Nat.blt i n || Nat.beq ((masks ops.toList []).getD i 0) (2 ^ i - 1)) &&
  ((List.range n).all fun j => match ops[j]? with
    | some b => isApp b || (List.range n).all fun i => match ops[i]? with | some a => !(isApp a) || !(looksB ops b a.dst) | none => false
    | none => false)
structure OrdA (ops : Array Oper) (n : Nat) : Prop where
  tf : TailFacts ops n
  ord : ∀ i j a b, i < j → j < n → ops[i]? = some a → ops[j]? = some b → conflA ops a b = true → ((masks ops.toList []).getD j 0).testBit i = true
  reg : ∀ i j a b, i < n → j < n → ops[i]? = some a → ops[j]? = some b → isApp a = true → isApp b = false → looksB ops b a.dst = false
theorem ordA_spec {ops : Array Oper} {n : Nat} (h : ordA ops n = true) : OrdA ops n := by
  simp only [ordA, Bool.and_eq_true] at h
  obtain ⟨⟨⟨⟨hb, hle⟩, hm⟩, ht⟩, hr⟩ := h
  refine ⟨⟨fun i o hi e he hbind => ?_, Nat.le_of_ble_eq_true hle, fun i h1 h2 j hj => ?_⟩, fun i j a b hij hj ha hb' hc => ?_, fun i j a b hi hj ha hb' h1 h2 => ?_⟩
  · simp only [backward, List.all_eq_true, List.mem_range] at hb
    have := hb i (Array.getElem?_eq_some_iff.1 hi).1
    rw [hi] at this
    simp only [List.all_eq_true] at this
    have := this e (by simpa using he)
    rw [hbind] at this
    simpa [Nat.blt_eq] using this
  · simp only [List.all_eq_true, List.mem_range] at ht
    have h3 := ht i h2
    have hnb : Nat.blt i n = false := by
      cases hq : Nat.blt i n with
      | false => rfl
      | true => have : i < n := by simpa [Nat.blt_eq] using hq
                omega
    rw [hnb, Bool.false_or] at h3
    have h4 := Nat.eq_of_beq_eq_true h3
    rw [h4, Nat.testBit_two_pow_sub_one]
    simpa using hj
  · simp only [List.all_eq_true, List.mem_range] at hm
    have h1 := hm j hj
    rw [hb'] at h1
    simp only [List.all_eq_true, List.mem_range] at h1
    have h2 := h1 i hij
    rw [ha] at h2
    simp only [hc, Bool.not_true, Bool.false_or] at h2
    exact h2
  · simp only [List.all_eq_true, List.mem_range] at hr
    have h3 := hr j hj
    rw [hb'] at h3
    simp only [h2, Bool.false_or, List.all_eq_true, List.mem_range] at h3
    have h4 := h3 i hi
    rw [ha] at h4
    simpa only [h1, Bool.not_true, Bool.false_or, Bool.not_eq_true'] using h4

inductive UpdA : Type 1 where
  | reg (d : Option Tmp) (x : V)
  | app (d : Tmp) (x : V) (k : Nat) (b : Blk)
def UpdA.dst : UpdA → Option Tmp
  | .reg d _ => d
  | .app d _ _ _ => some d
def UpdA.isApp : UpdA → Bool
  | .reg _ _ => false
  | .app _ _ _ _ => true
def apA (s : St) : UpdA → St
  | .reg d x => s.put d x
  | .app d x k b => (s.new k b).put (some d) x
def accA (s : St) (us : Nat → UpdA) (L : Nat → Bool) : Nat → St
  | 0 => s
  | n + 1 => bif L n then apA (accA s us L n) (us n) else accA s us L n
theorem new_tmps {s : St} {k : Nat} {b : Blk} (t : Nat) : (s.new k b).tmps t = (s.tmps t).sub k none := rfl
theorem put_tmps {s : St} {d : Tmp} {x : V} (t : Nat) : (s.put (some d) x).tmps t = if t = d then x else s.tmps t := by
  simp only [St.put]
  by_cases h : t = d
  · subst h; simp
  · rw [if_neg h, beq_of_ne h]; rfl
theorem new_put {s : St} {d : Option Tmp} {x : V} {k : Nat} {b : Blk} (h : x.noKey k = true) : (s.put d x).new k b = (s.new k b).put d x := by
  cases d with
  | none => rfl
  | some d =>
    refine St.eta (funext fun t => ?_) rfl rfl
    rw [new_tmps, put_tmps, put_tmps, new_tmps]
    split
    · exact V.sub_noKey _ h
    · rfl
theorem put_comm {s : St} {d d' : Option Tmp} {x x' : V} (h : ∀ t, d = some t → d' ≠ some t) : (s.put d x).put d' x' = (s.put d' x').put d x := by
  cases d with
  | none => rfl
  | some d => cases d' with
    | none => rfl
    | some d' =>
      refine St.eta (funext fun t => ?_) rfl rfl
      simp only [put_tmps]
      by_cases h1 : t = d
      · subst h1
        rw [if_pos rfl, if_pos rfl, if_neg (fun e => h t rfl (by rw [e]))]
      · by_cases h2 : t = d'
        · subst h2; rw [if_pos rfl, if_neg h1, if_pos rfl]
        · rw [if_neg h2, if_neg h1, if_neg h1, if_neg h2]
theorem accA_blk {s : St} {us : Nat → UpdA} {L L' : Nat → Bool} : ∀ n, (∀ i, i < n → (us i).isApp = true → L i = L' i) → (accA s us L n).blk = (accA s us L' n).blk
  | 0, _ => rfl
  | n + 1, h => by
    have ih := accA_blk (s := s) (L := L) (L' := L') n fun i hi => h i (by omega)
    simp only [accA]
    cases hu : us n with
    | reg d x =>
      have e : ∀ (b : Bool) (s0 : St), (bif b then apA s0 (.reg d x) else s0).blk = s0.blk := fun b s0 => by cases b <;> simp [apA, put_blk]
      rw [e, e, ih]
    | app d x k b =>
      rw [h n (by omega) (by rw [hu]; rfl)]
      cases L' n with
      | true =>
        simp only [cond_true, apA, put_blk]
        show (fun j => _) = (fun j => _)
        funext j
        simp only [St.new, St.withBlk, St.sub, ih]
      | false => exact ih
theorem accA_reg {s : St} {us : Nat → UpdA} {ks : List Nat} {L L' : Nat → Bool} {t : Nat} (h0 : ∀ k ∈ ks, (s.tmps t).noKey k = true) : ∀ n, (∀ i, i < n → (us i).dst = some t → L i = L' i ∧ (us i).isApp = false) → (∀ i, i < n → ∀ d x, us i = .reg d x → ∀ k ∈ ks, x.noKey k = true) → (∀ i, i < n → ∀ d x k b, us i = .app d x k b → k ∈ ks) →
    (accA s us L n).tmps t = (accA s us L' n).tmps t ∧ ∀ k ∈ ks, ((accA s us L n).tmps t).noKey k = true
  | 0, _, _, _ => ⟨rfl, h0⟩
  | n + 1, h1, h2, h3 => by
    obtain ⟨ih, ik⟩ := accA_reg (L := L) (L' := L') h0 n (fun i hi => h1 i (by omega)) (fun i hi => h2 i (by omega)) (fun i hi => h3 i (by omega))
    simp only [accA]
    cases hu : us n with
    | reg d x =>
      by_cases hd : d = some t
      · subst hd
        rw [(h1 n (by omega) (by rw [hu]; rfl)).1]
        have hx := h2 n (by omega) _ x hu
        cases L' n with
        | true => simp only [cond_true, apA, put_tmps, if_true, true_and]; exact hx
        | false => exact ⟨ih, ik⟩
      · have e : ∀ (b : Bool) (s0 : St), (bif b then apA s0 (.reg d x) else s0).tmps t = s0.tmps t := fun b s0 => by cases b <;> simp only [cond_true, cond_false, apA]; exact put_tmps_ne hd
        rw [e, e]; exact ⟨ih, ik⟩
    | app d x k b =>
      have hd : ¬ t = d := fun e => by
        have := (h1 n (by omega) (by rw [hu, e]; rfl)).2
        rw [hu] at this; cases this
      have hk := h3 n (by omega) d x k b hu
      have hk' : ∀ k ∈ ks, ((accA s us L' n).tmps t).noKey k = true := by rw [← ih]; exact ik
      have e : ∀ (b' : Bool) (s0 : St), (∀ k ∈ ks, (s0.tmps t).noKey k = true) → (bif b' then apA s0 (.app d x k b) else s0).tmps t = s0.tmps t := fun b' s0 hs => by
        cases b' with
        | true => simp only [cond_true, apA]; rw [put_tmps, if_neg hd, new_tmps, V.sub_noKey _ (hs k hk)]
        | false => rfl
      rw [e _ _ ik, e _ _ hk']; exact ⟨ih, ik⟩
theorem accA_app {s : St} {us : Nat → UpdA} {L L' : Nat → Bool} {t : Nat} : ∀ n, (∀ i, i < n → (us i).dst = some t → L i = L' i) → (∀ i, i < n → (us i).isApp = true → L i = L' i) → (accA s us L n).tmps t = (accA s us L' n).tmps t
  | 0, _, _ => rfl
  | n + 1, h1, h2 => by
    have ih := accA_app (s := s) (L := L) (L' := L') (t := t) n (fun i hi => h1 i (by omega)) (fun i hi => h2 i (by omega))
    simp only [accA]
    cases hu : us n with
    | reg d x =>
      by_cases hd : d = some t
      · subst hd
        rw [h1 n (by omega) (by rw [hu]; rfl)]
        cases L' n with
        | true => simp only [cond_true, apA, put_tmps, if_true]
        | false => exact ih
      · have e : ∀ (b : Bool) (s0 : St), (bif b then apA s0 (.reg d x) else s0).tmps t = s0.tmps t := fun b s0 => by cases b <;> simp only [cond_true, cond_false, apA]; exact put_tmps_ne hd
        rw [e, e]; exact ih
    | app d x k b =>
      rw [h2 n (by omega) (by rw [hu]; rfl)]
      cases L' n with
      | true => simp only [cond_true, apA, put_tmps, new_tmps, ih]
      | false => exact ih
theorem accA_insert {s : St} {us : Nat → UpdA} {L : Nat → Bool} {i : Nat} (hL : L i = false) : ∀ n, i < n → (∀ j, i < j → j < n → L j = true → ∀ s0, apA (apA s0 (us i)) (us j) = apA (apA s0 (us j)) (us i)) → accA s us (insL L i) n = apA (accA s us L n) (us i)
  | 0, h, _ => by omega
  | n + 1, h, hc => by
    have same : ∀ j, j ≠ i → insL L i j = L j := fun j hj => by unfold insL; rw [beq_of_ne hj]; rfl
    have hi : insL L i i = true := by unfold insL; simp
    simp only [accA]
    by_cases e : i = n
    · subst e
      have h2 : accA s us (insL L i) i = accA s us L i := by
        have : ∀ m, m ≤ i → accA s us (insL L i) m = accA s us L m := by
          intro m
          induction m with
          | zero => intro _; rfl
          | succ m ih => intro hm; simp only [accA]; rw [ih (by omega), same m (by omega)]
        exact this i (Nat.le_refl _)
      rw [hi, hL, h2]; rfl
    · rw [accA_insert hL n (by omega) (fun j h1 h2 => hc j h1 (by omega)), same n (Ne.symm e)]
      cases hn : L n with
      | true => simp only [cond_true]; exact hc n (by omega) (by omega) hn _
      | false => rfl
theorem accA_congr {s : St} {us : Nat → UpdA} {L L' : Nat → Bool} : ∀ m, (∀ j, j < m → L j = L' j) → accA s us L m = accA s us L' m
  | 0, _ => rfl
  | m + 1, h => by simp only [accA]; rw [accA_congr m (fun j hj => h j (by omega)), h m (by omega)]

inductive PRunA (X : Ctx) (all : Array Oper) (ks : List Nat) : List Oper → St → St → Prop
  | nil {s : St} : PRunA X all ks [] s s
  | reg {o : Oper} {rest : List Oper} {s s' : St} {x : V} (hd : dstOk X.N o.dst = true) (h : ∀ s' : St, (∀ t ∈ o.looksAt all, s'.tmps t = s.tmps t) → M1 X all s' o x) (hna : isApp o = false) (hx : (ks.all fun k => x.noKey k) = true) (k : PRunA X all ks rest (s.put o.dst x) s') : PRunA X all ks (o :: rest) s s'
  | app {o : Oper} {rest : List Oper} {s s' : St} {d : Tmp} {x : V} {k : Nat} {b : Blk} (ha : isApp o = true) (hd : o.dst = some d) (hk : ks.contains k = true) (h : ∀ s' : St, s'.blk = s.blk → (∀ t ∈ o.looksAt all, s'.tmps t = s.tmps t) → E1 X all s' o ((s'.new k b).put (some d) x)) (kk : PRunA X all ks rest ((s.new k b).put (some d) x) s') : PRunA X all ks (o :: rest) s s'
inductive UpdOkA (X : Ctx) (all : Array Oper) (ks : List Nat) (s : St) (o : Oper) : UpdA → Prop
  | reg {x : V} (hd : dstOk X.N o.dst = true) (h : ∀ s' : St, (∀ t ∈ o.looksAt all, s'.tmps t = s.tmps t) → M1 X all s' o x) (hna : isApp o = false) (hx : (ks.all fun k => x.noKey k) = true) : UpdOkA X all ks s o (.reg o.dst x)
  | app {d : Tmp} {x : V} {k : Nat} {b : Blk} (ha : isApp o = true) (hd : o.dst = some d) (hk : ks.contains k = true) (h : ∀ s' : St, s'.blk = s.blk → (∀ t ∈ o.looksAt all, s'.tmps t = s.tmps t) → E1 X all s' o ((s'.new k b).put (some d) x)) : UpdOkA X all ks s o (.app d x k b)
theorem prunA_us {X : Ctx} {all : Array Oper} {ks : List Nat} : ∀ {l : List Oper} {s s' : St}, PRunA X all ks l s s' → ∃ us : Nat → UpdA, s' = accA s us (fun _ => true) l.length ∧ ∀ i o, l[i]? = some o → UpdOkA X all ks (accA s us (fun _ => true) i) o (us i)
  | [], s, s', h => by
    cases h
    exact ⟨fun _ => .reg none (.d .undef), rfl, fun i o h => by simp at h⟩
  | o :: rest, s, s', h => by
    have shift : ∀ (u0 : UpdA) (us : Nat → UpdA) (m : Nat) (s0 : St), accA s0 (fun i => match i with | 0 => u0 | i + 1 => us i) (fun _ => true) (m + 1) = accA (apA s0 u0) us (fun _ => true) m := fun u0 us m s0 => by
      induction m with
      | zero => rfl
      | succ m ih => rw [accA, ih]; rfl
    have fin : ∀ (u0 : UpdA), UpdOkA X all ks s o u0 → PRunA X all ks rest (apA s u0) s' → ∃ us : Nat → UpdA, s' = accA s us (fun _ => true) (o :: rest).length ∧ ∀ i o', (o :: rest)[i]? = some o' → UpdOkA X all ks (accA s us (fun _ => true) i) o' (us i) := fun u0 h0 hk => by
      obtain ⟨us, h1, h2⟩ := prunA_us hk
      refine ⟨fun i => match i with | 0 => u0 | i + 1 => us i, ?_, fun i o' hi => ?_⟩
      · rw [List.length_cons, shift, h1]
      · cases i with
        | zero => simp at hi; subst hi; exact h0
        | succ i => rw [shift]; exact h2 i o' (by simpa using hi)
    cases h with
    | reg hd hm hna hx hk => exact fin _ (.reg hd hm hna hx) hk
    | app ha hd hk hm kk => exact fin _ (.app ha hd hk hm) kk

theorem awp_region_app {X : Ctx} (hm : X.P.follows .mixedOrders = true) {id : Nat} {ops : List Oper} (n : Nat) (ks : List Nat) (hok : ordA ops.toArray n = true) {Q : Exit → St → Prop} {sx s1 : St} (hKs : (ks.all fun k => !(X.K.contains k)) = true) (hdf : sx.dfs = []) (hrun : PRunA X ops.toArray ks (ops.take n) (sx.kills ks) s1) (htail : awpL X ops.toArray (ops.drop n) Q s1) : awp X (.region id ops.toArray true) Q sx := by
  have hf := ordA_spec hok
  have hfree := FreeSt.kills (s := sx) ks
  have hdf2 : (sx.kills ks).dfs = [] := by
    clear hrun hfree hKs
    induction ks with
    | nil => exact hdf
    | cons k r ih =>
      show dfSub k none (sx.kills r).dfs = []
      rw [ih]; rfl
  have main : awp X (.region id ops.toArray true) Q (sx.kills ks) := by
    generalize sx.kills ks = s at hfree hrun hdf2
    obtain ⟨us, hs1, hx⟩ := prunA_us hrun
    have hle := hf.tf.le
    have hsz : ops.toArray.size = ops.length := rfl
    have getop : ∀ i, i < n → (ops.take n)[i]? = ops.toArray[i]? := fun i hi => by simp [List.getElem?_take, hi]
    have hlen : (ops.take n).length = n := by simp; omega
    rw [hlen] at hs1
    have ok : ∀ i o, i < n → ops.toArray[i]? = some o → UpdOkA X ops.toArray ks (accA s us (fun _ => true) i) o (us i) := fun i o hi ho => hx i o (by rw [getop i hi]; exact ho)
    have getn : ∀ j, j < n → ∃ o, ops.toArray[j]? = some o := fun j hj => ⟨_, Array.getElem?_eq_getElem (by omega)⟩
    have dstOf : ∀ i o, i < n → ops.toArray[i]? = some o → (us i).dst = o.dst ∧ (us i).isApp = isApp o := fun i o hi ho => by
      have := ok i o hi ho
      generalize us i = u at this
      cases this with
      | reg _ _ hna => exact ⟨rfl, hna.symm⟩
      | app ha hd => exact ⟨hd.symm, ha.symm⟩
    have regx : ∀ i, i < n → ∀ d x, us i = .reg d x → ∀ k ∈ ks, x.noKey k = true := fun i hi d x hu k hk => by
      obtain ⟨o, ho⟩ := getn i hi
      have := ok i o hi ho
      rw [hu] at this
      cases this with
      | reg _ _ _ hx => rw [List.all_eq_true] at hx; exact hx k hk
    have appk : ∀ i, i < n → ∀ d x k b, us i = .app d x k b → k ∈ ks := fun i hi d x k b hu => by
      obtain ⟨o, ho⟩ := getn i hi
      have := ok i o hi ho
      rw [hu] at this
      cases this with
      | app _ _ hk => simpa [List.contains_eq_mem] using hk
    have full : ∀ i, i ≤ n → accA s us (fun _ => true) i = accA s us (fun j => decide (j < i)) n := fun i hi => by
      have h1 : accA s us (fun _ => true) i = accA s us (fun j => decide (j < i)) i := accA_congr i fun j hj => by simp [hj]
      have h2 : ∀ m, i ≤ m → m ≤ n → accA s us (fun j => decide (j < i)) m = accA s us (fun j => decide (j < i)) i := by
        intro m
        induction m with
        | zero => intro h1 _; obtain rfl : i = 0 := by omega
                  rfl
        | succ m ih =>
          intro h1 h2
          by_cases e : i = m + 1
          · rw [e]
          · simp only [accA]; rw [ih (by omega) (by omega)]; simp [show ¬ m < i by omega]
      rw [h1, h2 n hi (Nat.le_refl _)]
    refine awp_region_gen hm n hf.tf (fun L => accA s us L n) (s1 := s1) ?_ (fun L h1 h2 => ?_) (fun L i o hi ho hLi hLn hLp hLc => ?_) htail
    · have : ∀ m, accA s us (fun _ => false) m = s := by
        intro m
        induction m with
        | zero => rfl
        | succ m ih => simp only [accA, cond_false]; exact ih
      exact this n
    · rw [hs1]
      exact accA_congr n fun j hj => h1 j hj
    · have diff : ∀ j b, j < n → ops.toArray[j]? = some b → conflA ops.toArray b o = true ∨ conflA ops.toArray o b = true → L j = decide (j < i) := fun j b hj hb hc => by
        have sym : conflA ops.toArray b o = true ∧ conflA ops.toArray o b = true := by
          have : conflA ops.toArray b o = conflA ops.toArray o b := by
            unfold conflA
            rw [Bool.or_comm (looksB ops.toArray o b.dst), Bool.and_comm (isApp b)]
            congr 1
            congr 1
            cases b.dst <;> cases o.dst <;> simp [Bool.beq_comm, eq_comm]
          rw [this] at hc ⊢
          simpa using hc
        rcases Nat.lt_trichotomy j i with h | h | h
        · rw [decide_eq_true h]; exact hLp j h (hf.ord j i b o h hi hb ho sym.1)
        · subst h; rw [hLi, decide_eq_false (by omega)]
        · rw [decide_eq_false (by omega)]
          cases hL : L j with
          | false => rfl
          | true =>
            have := hLc j hL i (hf.ord i j o b h hj ho hb sym.2)
            rw [hLi] at this; cases this
      have hins : accA s us (insL L i) n = apA (accA s us L n) (us i) := accA_insert hLi n hi fun j hij hjn hLj s0 => by
        obtain ⟨b, hb⟩ := getn j hjn
        have hnc : conflA ops.toArray o b = false := by
          cases hc : conflA ops.toArray o b with
          | false => rfl
          | true =>
            have := hLc j hLj i (hf.ord i j o b hij hjn ho hb hc)
            rw [hLi] at this; cases this
        simp only [conflA, Bool.or_eq_false_iff] at hnc
        obtain ⟨⟨_, h3⟩, h4⟩ := hnc
        have hd : ∀ t, (us i).dst = some t → (us j).dst ≠ some t := fun t e1 e2 => by
          rw [(dstOf i o hi ho).1] at e1
          rw [(dstOf j b hjn hb).1] at e2
          rw [e1, e2] at h3
          simp at h3
        have hap : ¬ ((us i).isApp = true ∧ (us j).isApp = true) := fun ⟨e1, e2⟩ => by
          rw [(dstOf i o hi ho).2] at e1
          rw [(dstOf j b hjn hb).2] at e2
          rw [e1, e2] at h4; cases h4
        cases hui : us i with
        | reg d x =>
          rw [hui] at hd
          cases huj : us j with
          | reg d' x' => rw [huj] at hd; simp only [apA]; exact put_comm hd
          | app d' x' k' b' =>
            rw [huj] at hd
            simp only [apA]
            rw [new_put (regx i hi d x hui k' (appk j hjn d' x' k' b' huj))]
            exact put_comm (d := d) (d' := some d') hd
        | app d x k' b' =>
          rw [hui] at hd hap
          cases huj : us j with
          | reg d' x' =>
            rw [huj] at hd
            simp only [apA]
            rw [new_put (regx j hjn d' x' huj k' (appk i hi d x k' b' hui))]
            exact put_comm (d := some d) (d' := d') hd
          | app d' x' k'' b'' => rw [huj] at hap; exact absurd ⟨rfl, rfl⟩ hap
      show E1 X ops.toArray (accA s us L n) o (accA s us (insL L i) n)
      rw [hins]
      have hoki := ok i o hi ho
      cases hui : us i with
      | reg d x =>
        rw [hui] at hoki
        cases hoki with
        | reg hd h hna hxx =>
          refine (h (accA s us L n) fun t ht => ?_).e1 hd
          rw [full i (by omega)]
          refine (accA_reg (ks := ks) (fun k hk => (hfree k hk).tm t) n (fun j hj hu => ?_) regx appk).1
          obtain ⟨b, hb⟩ := getn j hj
          have hbd : b.dst = some t := by rw [← (dstOf j b hj hb).1]; exact hu
          refine ⟨diff j b hj hb (.inl (by simp [conflA, hbd, looksB_of ht])), ?_⟩
          rw [(dstOf j b hj hb).2]
          cases hab : isApp b with
          | false => rfl
          | true =>
            have := hf.reg j i b o hj hi hb ho hab hna
            rw [hbd, looksB_of ht] at this; cases this
      | app d x k b =>
        rw [hui] at hoki
        cases hoki with
        | app ha hd hk h =>
          have happ : ∀ j, j < n → (us j).isApp = true → L j = decide (j < i) := fun j hj hu => by
            obtain ⟨b', hb'⟩ := getn j hj
            exact diff j b' hj hb' (.inl (by simp [conflA, ha, ← (dstOf j b' hj hb').2, hu]))
          refine h (accA s us L n) ?_ fun t ht => ?_
          · rw [full i (by omega)]
            exact accA_blk n happ
          · rw [full i (by omega)]
            refine accA_app n (fun j hj hu => ?_) happ
            obtain ⟨b', hb'⟩ := getn j hj
            have hbd : b'.dst = some t := by rw [← (dstOf j b' hj hb').1]; exact hu
            exact diff j b' hj hb' (.inl (by simp [conflA, hbd, looksB_of ht]))
  intro io F a w hs
  obtain ⟨io', hs'⟩ := SR.kills ks io (fun k hk => by
    simp only [List.all_eq_true] at hKs
    have := hKs k hk
    simpa [List.contains_eq_mem] using this) hs
  exact main io' F a w hs'

def awpA (ks : List Nat) (X : Ctx) (all : Array Oper) (pre rest : List Oper) (Q : Exit → St → Prop) (s : St) : Prop := ∃ s1, PRunA X all ks pre s s1 ∧ awpL X all rest Q s1
def isSl (o : Oper) : Bool := match o.op with | .slice .. => true | _ => false
def freeOp (s : St) (o : Oper) : Bool := isMove o || isSl o || (isLoad o && (match keyOf s o with | none => true | _ => false))
def SrcB (X : Ctx) (β : Nat → Option Blk) (y : V) (sz : Nat) {α : Type} (e : α → List D) (z : α) (l : List α) : Prop := ∀ s' : St, s'.blk = β → SrcOk X s' y sz e l
section
variable {X : Ctx} {all : Array Oper} {Q : Exit → St → Prop} {s : St} {o : Oper} {pre rest : List Oper} {ks : List Nat}
theorem awpA_nil (h : awpL X all rest Q s) : awpA ks X all [] rest Q s := ⟨s, .nil, h⟩
theorem optI_agree {s' : St} {y : Option Operand} (h : ∀ z, y = some z → s'.opd z = s.opd z) : optI s' y = optI s y := by
  cases y with
  | none => rfl
  | some z => simp only [optI, h z rfl]
theorem evalQ_slice {T : TypeId → Option TyD} {m : Bool} {s' : St} (hm : isSl o = true) (h : ∀ t ∈ o.looksAt all, s'.tmps t = s.tmps t) : evalQ T m s' o.op = evalQ T m s o.op := by
  have hop := fun y hy => opd_agree (s := s) (s' := s') (o := o) (all := all) (y := y) hy h
  unfold isSl at hm
  split at hm
  · rename_i t x lo hi mx e
    rw [e] at hop ⊢
    have h1 := hop x (by simp [Op.operands])
    have h2 : optI s' lo = optI s lo := optI_agree fun z hz => hop z (by subst hz; simp [Op.operands])
    have h3 : optI s' hi = optI s hi := optI_agree fun z hz => hop z (by subst hz; simp [Op.operands])
    have h4 : optI s' mx = optI s mx := optI_agree fun z hz => hop z (by subst hz; simp [Op.operands])
    simp only [evalQ, h1, h2, h3, h4]
  · cases hm
theorem stepAQ {d : Tmp} {C : Prop} {x : V} (m : Bool) (hk : Nat.beq (opK o.op) 0 = true) (hg : gd all s o = some true) (hdst : o.dst = some d) (hd : dstOk X.N (some d) = true) (hq : evalF X.T m s o.op = some (C, x)) (hC : C) (hfr : freeOp s o = true) (hna : isApp o = false) (hf : (ks.all fun k => x.noKey k) = true) (k : awpA ks X all pre rest Q (s.put (some d) x)) : awpA ks X all (o :: pre) rest Q s := by
  rw [← hdst] at hd k
  obtain ⟨s1, h1, h2⟩ := k
  refine ⟨s1, .reg hd (fun s' hs' => m_q m ((gd_agree hs').trans hg) ?_ hC) hna hf h1, h2⟩
  rw [evalF_eq] at hq ⊢
  unfold freeOp at hfr
  rw [Bool.or_eq_true, Bool.or_eq_true] at hfr
  rcases hfr with (hfr | hfr) | hfr
  · rw [evalQ_move hfr hs']; exact hq
  · rw [evalQ_slice hfr hs']; exact hq
  · rw [Bool.and_eq_true] at hfr
    refine evalQ_load hfr.1 hq hs' fun k b hkey _ => ?_
    rw [hkey] at hfr
    cases hfr.2
theorem stepALit {d : Tmp} {e : TypeId} {sz len : Nat} {rows : List (List D)} (hkk : Nat.beq (opK o.op) 5 = true) (h : evalB X.T s o.op = some (e, sz, len, rows)) (hdst : o.dst = some d) (hg : gd all s o = some true) (hd : dstOk X.N (some d) = true) (k : awpA ks X all pre rest Q (s.put (some d) (.d (.sl sz (nth [] rows) 0 (iota len 0))))) : awpA ks X all (o :: pre) rest Q s := by
  rw [← hdst] at hd k
  obtain ⟨s1, h1, h2⟩ := k
  have hna : isApp o = false := by
    unfold isApp
    split
    · rename_i c e'
      rw [e'] at h
      cases h
    · rfl
  refine ⟨s1, .reg hd (fun s' hs' => m_lit (e := e) X.ok ((gd_agree hs').trans hg) ?_) hna (by simp [V.noKey]) h1, h2⟩
  have hop := fun y hy => opd_agree (s := s) (s' := s') (o := o) (all := all) (y := y) hy hs'
  revert h
  cases he : o.op with
  | buildSlice t n parts =>
    rw [he] at hop
    have e1 : (parts.toList.map fun p => (p.1, s'.opd p.2)) = parts.toList.map fun p => (p.1, s.opd p.2) := List.map_congr_left fun p hp => by
      rw [hop p.2 (by simp only [Op.operands]; simp; exact ⟨p.1, by simpa using hp⟩)]
    simp only [evalB, e1]
    exact id
  | _ => intro h; cases h
theorem callee_agree {s' : St} {c : Call} (hop : o.op = .call c) (h : ∀ t ∈ o.looksAt all, s'.tmps t = s.tmps t) : calleeOf s' c = calleeOf s c ∧ c.args.toList.map s'.opd = c.args.toList.map s.opd := by
  have ho := fun y hy => opd_agree (s := s) (s' := s') (o := o) (all := all) (y := y) hy h
  rw [hop] at ho
  constructor
  · unfold calleeOf
    cases hc : c.callee with
    | value y =>
      have := ho y (by simp only [Op.operands, Call.operands, hc]; simp)
      simp only [this]
    | _ => rfl
  · exact List.map_congr_left fun y hy => ho y (by simp only [Op.operands, Call.operands]; simp; right; simpa using hy)
theorem clA {c : Call} {caps : List V} {ds ds' : List D} {r : D} {d : Tmp} (f : FuncId) (hcf : calleeIs s o.op f = true) (hop : o.op = .call c) (hc : calleeOf s c = some (f, caps)) (hdst : o.dst = some d) (hr : Ret X.P f ds' (· = r)) (k : awpA ks X all pre rest Q (s.put (some d) (.d r))) (hg : gd all s o = some true := by exact rfl) (hd : dstOk X.N (some d) = true := by exact rfl) (ha : allD (c.args.toList.map s.opd ++ caps) = some ds := by exact rfl) (le : LeT ds ds' := by exact Go.Vw.leT) : awpA ks X all (o :: pre) rest Q s := by
  rw [← hdst] at hd k
  obtain ⟨s1, h1, h2⟩ := k
  have hna : isApp o = false := by
    unfold isApp
    rw [hop]
    unfold calleeOf at hc
    split at hc
    · rename_i y e; simp only [e]
    · cases hc
  refine ⟨s1, .reg hd (fun s' hs' => ?_) hna (by simp [V.noKey]) h1, h2⟩
  obtain ⟨e1, e2⟩ := callee_agree (s := s) hop hs'
  exact m_callR ((gd_agree hs').trans hg) hop (e1.trans hc) (by rw [e2]; exact ha) le hr
theorem srcB_d {β : Nat → Option Blk} {sz : Nat} {α : Type} {e : α → List D} {z : α} {l : List α} : SrcB X β (.d (.sl sz e z l)) sz e z l := fun s' _ => src_data (LeD.refl _)
theorem srcB_own {β : Nat → Option Blk} {k o n : Nat} {ty ty' : TypeId} {sz : Nat} {α : Type} {e : α → List D} {z : α} {l : List α} (hk : β k = some (.data ty' sz e z l)) : SrcB X β (.own k o n ty sz) sz e z (cut o n l) := fun s' hs => src_own (by rw [hs]; exact hk)
theorem srcB_lit {β : Nat → Option Blk} {sz n : Nat} {α : Type} {e : α → List D} {z : α} {rows : List (List D)} {a : α} {l : List α} (hn : rows.length = n) (h : LeR sz rows e (a :: l)) : SrcB X β (.d (.sl sz (nth [] rows) 0 (iota n 0))) sz e z (a :: l) := fun s' _ => src_lit hn h
theorem srcB {β : Nat → Option Blk} {y : V} {sz : Nat} {α : Type} {e : α → List D} {z : α} {l : List α} (h : SrcB X β y sz e z l := by
  first
  | exact Go.Vw.srcB_lit rfl (Go.Vw.LeR.cons rfl Go.Vw.leL Go.Vw.LeR.nil)
  | exact Go.Vw.srcB_own rfl
  | exact Go.Vw.srcB_d
  | fail) : SrcB X β y sz e z l := h
theorem stepAApp {d : Tmp} {td ed : TyD} {α : Type} {en : α → List D} {z : α} {l l2 : List α} {t : TypeId} {c : Call} {x y : Operand} {e : TypeId} {k n : Nat} (hkk : Nat.beq (opK o.op) 3 = true) (hop : o.op = .call c) (hc : c = ⟨.builtin .append, #[x, y], #[t, t]⟩) (hdst : o.dst = some d) (hg : gd all s o = some true) (hd : dstOk X.N (some d) = true) (ht : X.T t = some td) (hds : td.desc = .slice e) (he : X.T e = some ed) (hx : s.opd x = .own k 0 n e ed.size) (hK : X.K.contains k = false) (hks : ks.contains k = true) (hk : s.blk k = some (.data e ed.size en z l)) (hz : zeroOk ed = true) (hn : n = l.length) (hy : SrcB X s.blk (s.opd y) ed.size en z l2) (hb : l.length + l2.length ≤ 9223372036854775807 ∧ (l.length + l2.length) * ed.bytes ≤ 140737488355328) (r : awpA ks X all pre rest Q ((s.new k (.data e ed.size en z (l ++ l2))).put (some d) (.own k 0 (l ++ l2).length e ed.size))) : awpA ks X all (o :: pre) rest Q s := by
  obtain ⟨dst, op, ty, pos, after, g⟩ := o
  cases hop; cases hdst; subst hc
  obtain ⟨s1, h1, h2⟩ := r
  refine ⟨s1, .app rfl rfl hks (fun s' hb' htm => ?_) h1, h2⟩
  have e2 := opd_agree (o := ⟨some d, .call ⟨.builtin .append, #[x, y], #[t, t]⟩, ty, pos, after, g⟩) (all := all) (y := y) (by simp [Op.operands, Call.operands]) htm
  exact e_append X.ok ((gd_agree htm).trans hg) hd ht hds he hK ((opd_agree (by simp [Op.operands, Call.operands]) htm).trans hx) (by rw [hb']; exact hk) hn (by rw [e2]; exact hy s' hb') hz hb
theorem new_new {s : St} {k : Nat} {b b' : Blk} : (s.new k b).new k b' = s.new k b' := by
  refine St.eta (funext fun t => ?_) (funext fun j => ?_) ?_
  · show ((s.tmps t).sub k none).sub k none = (s.tmps t).sub k none
    exact V.sub_noKey _ (V.noKey_sub _)
  · simp only [St.new, St.withBlk, St.sub]
    cases Nat.beq j k with
    | true => rfl
    | false =>
      simp only [cond_false]
      cases s.blk j with
      | none => rfl
      | some b0 => simp only [Blk.sub_noKey (Blk.noKey_sub b0)]
  · show dfSub k none (dfSub k none s.dfs) = dfSub k none s.dfs
    exact dfSub_no dfNo_sub
theorem stepAAppNil {d : Tmp} {td ed : TyD} {α : Type} {en : α → List D} {z : α} {l2 : List α} {t : TypeId} {c : Call} {x y : Operand} {e : TypeId} (hkk : Nat.beq (opK o.op) 3 = true) (hop : o.op = .call c) (hc : c = ⟨.builtin .append, #[x, y], #[t, t]⟩) (hdst : o.dst = some d) (hg : gd all s o = some true) (hd : dstOk X.N (some d) = true) (ht : X.T t = some td) (hds : td.desc = .slice e) (he : X.T e = some ed) (hx : s.opd x = .d .nils) (hK : X.K.contains d = false) (hks : ks.contains d = true) (hz : zeroOk ed = true) (hy : SrcB X s.blk (s.opd y) ed.size en z l2) (hb : l2.length ≤ 9223372036854775807 ∧ l2.length * ed.bytes ≤ 140737488355328) (r : awpA ks X all pre rest Q ((s.new d (.data e ed.size en z l2)).put (some d) (.own d 0 l2.length e ed.size))) : awpA ks X all (o :: pre) rest Q s := by
  obtain ⟨dst, op, ty, pos, after, g⟩ := o
  cases hop; cases hdst; subst hc
  obtain ⟨s1, h1, h2⟩ := r
  refine ⟨s1, .app rfl rfl hks (fun s' hb' htm => ?_) h1, h2⟩
  have e2 := opd_agree (o := ⟨some d, .call ⟨.builtin .append, #[x, y], #[t, t]⟩, ty, pos, after, g⟩) (all := all) (y := y) (by simp [Op.operands, Call.operands]) htm
  have := e_appnil (z := z) X.ok ((gd_agree htm).trans hg) hd ht hds he hK ((opd_agree (by simp [Op.operands, Call.operands]) htm).trans hx) (by rw [e2]; exact hy s' hb') hz hb
  rwa [new_new] at this
theorem goAp {G : Prop} {ops : List Oper} (k : G) (h : G → awpA ks X all ops rest Q s := by
  first
  | exact Go.Vw.stepAQ true Go.Vw.tt Go.Vw.stt rfl rfl rfl Go.Vw.sc rfl rfl rfl
  | exact Go.Vw.awpA_nil
  | exact Go.Vw.stepAQ false Go.Vw.tt Go.Vw.stt rfl rfl rfl Go.Vw.sc rfl rfl rfl
  | exact Go.Vw.stepALit Go.Vw.tt rfl rfl rfl rfl
  | exact Go.Vw.stepAApp Go.Vw.tt rfl rfl rfl rfl rfl rfl rfl rfl rfl rfl rfl rfl rfl Go.Vw.sc Go.Vw.srcB Go.Vw.sc
  | exact Go.Vw.stepAAppNil Go.Vw.tt rfl rfl rfl rfl rfl rfl rfl rfl rfl rfl rfl rfl Go.Vw.srcB Go.Vw.sc
  | fail) : awpA ks X all ops rest Q s := h k
theorem awp_regA (id n : Nat) (ks : List Nat) {ops : List Oper} (h : awpA ks X ops.toArray (ops.take n) (ops.drop n) Q (s.kills ks)) (hm : X.P.follows .mixedOrders = true) (hok : ordA ops.toArray n = true) (hK : (ks.all fun k => !(X.K.contains k)) = true) (hdf : s.dfs = []) : awp X (.region id ops.toArray true) Q s := by
  obtain ⟨s1, h1, h2⟩ := h
  exact awp_region_app hm n ks hok hK hdf h1 h2
end

theorem drt_toV {io : Keys} {F : Nat → Prop} {w : World} {g : Nat → Option Value} : ∀ {ds : List D} {off : Nat}, DRT F w g off ds → VRT io F w g off (ds.map V.d)
  | [], _, _ => by simp only [List.map_nil, VRT]
  | d :: ds, off, h => by
    simp only [DRT] at h
    simp only [List.map_cons, VRT, VR]
    exact ⟨h.1, drt_toV h.2⟩
theorem RetB.toRet {P : Program} {f : FuncId} {ds : List D} {bs' : List (Nat × Blk)} {y : V} (h : RetB P f (ds.map V.d) (lookB []) y (lookB bs')) (m : Bool) {C : Prop} {d : D} (ha : V.asD m (St.of [] bs') y = some (C, d)) (hC : C) : Ret P f ds (· = d) := by
  refine ⟨h.enters, fun F w vs hF hl hv => ?_⟩
  have hno : ∀ io b, ¬ OwnA (lookB []) io b := fun io b ⟨k, hk, _⟩ => hk rfl
  refine (h.run (fun _ => none) F w vs hF (by simpa using hl) (drt_toV hv) ⟨fun k b hk => (by cases hk), fun k k' b e1 => absurd rfl e1⟩).mono fun e w' ⟨v, io', F', he, g1, g2, g3, g4, g5, g6⟩ => ?_
  have hkeys : (St.of [] bs').keys io' = ⟨io', lnO (lookB bs')⟩ := by
    show (⟨io', (St.of [] bs').ln⟩ : Keys) = _
    rw [lnO_eq]; rfl
  have hb : ∀ k b, (St.of [] bs').blk k = some b → BR (OwnA (lookB []) fun _ => none) w.heap.size ((St.of [] bs').keys io') F' w' k b := fun k b hk => by
    rw [hkeys]; exact g6.br k b hk
  refine ⟨v, d, Lent (St.of [] bs') io' F', he, rfl, ⟨g1.os, g1.tape, g1.output, g1.size, fun b hb => g1.block b hb (hno _ b)⟩, fun b hb => .inl (g2 b hb), fun b hb' => ?_, asD_sound hb y v ha hC (by rw [hkeys]; exact g5)⟩
  rcases hb' with h1 | ⟨k, hk, e1⟩
  · obtain ⟨h2, h3⟩ := g3 b h1
    rcases h3 with h3 | h3 | h3
    · exact .inl h3
    · exact .inr ⟨h3, h2⟩
    · exact absurd h3 (hno _ b)
  · obtain ⟨b0, hb0⟩ := Option.ne_none_iff_exists'.1 hk
    obtain ⟨_, h2, h3⟩ := (hb k b0 hb0).notF e1
    rcases h2 with h2 | h2
    · exact absurd h2 (hno _ b)
    · exact .inr ⟨h2, h3⟩
end Go.Vw

/-
  Quantiles split a list. Conditions: as each says.
-/
set_option linter.unusedVariables false
set_option linter.unusedSimpArgs false
namespace Go.Vw
def cntLe (l : List Rat) (v : Rat) : Nat := (l.filter fun x => decide (x ≤ v)).length
def cntGe (l : List Rat) (v : Rat) : Nat := (l.filter fun x => decide (v ≤ x)).length
def splitsQ (l : List Rat) (p v : Rat) : Bool := !decide ((((cntLe l v : Nat) : Int) : Rat) < p * ((l.length : Int) : Rat)) && !decide ((((cntGe l v : Nat) : Int) : Rat) < (1 - p) * ((l.length : Int) : Rat))
end Go.Vw

/-
  The sum of distances is least at the medians. Conditions: as each says.
-/
set_option linter.unusedVariables false
set_option linter.unusedSimpArgs false
namespace Go.Vw
def dsum (l : List Rat) (v : Rat) : Rat := l.foldl (fun s x => s + absQ (x - v)) 0
theorem between {a b c : Rat} (h : a ≤ b) (h0 : 0 ≤ c) (h1 : c ≤ 1) : a ≤ c * a + (1 - c) * b ∧ c * a + (1 - c) * b ≤ b := by
  have e1 := Rat.mul_nonneg (show 0 ≤ 1 - c by grind) (show 0 ≤ b - a by grind)
  have e2 := Rat.mul_nonneg h0 (show 0 ≤ b - a by grind)
  constructor <;> grind
end Go.Vw

/-
  Means, pairs and differences of lists of rational numbers. Conditions: as each says.
-/
set_option linter.unusedVariables false
set_option linter.unusedSimpArgs false
namespace Go.Vw
def sumQ (l : List Rat) : Rat := l.foldl (fun s x => s + x) 0
def meanQ (l : List Rat) : Rat := sumQ l / ((l.length : Int) : Rat)
theorem sumQ_acc : ∀ (l : List Rat) (a : Rat), l.foldl (fun s x => s + x) a = a + l.foldl (fun s x => s + x) 0
  | [], a => by simp [Rat.add_zero]
  | x :: l, a => by rw [List.foldl_cons, List.foldl_cons, sumQ_acc l (a + x), sumQ_acc l (0 + x), Rat.zero_add, Rat.add_assoc]
theorem sumQ_cons (x : Rat) (l : List Rat) : sumQ (x :: l) = x + sumQ l := by
  unfold sumQ
  rw [List.foldl_cons, sumQ_acc, Rat.zero_add]
theorem sumQ_nil : sumQ [] = 0 := rfl
theorem takeQ_ok {k : Nat} {l : List Rat} (h : ∀ q ∈ l, okQ k q) (i : Nat) : ∀ q ∈ l.take i, okQ k q := fun q hq => h q (List.mem_of_mem_take hq)
def hlTake (l : List Rat) : Nat → List Rat
  | 0 => []
  | k + 1 => hlTake l k ++ (l.take (k + 1)).map fun x => (x + l.getD k 0) / 2
def qnTake (l : List Rat) : Nat → List Rat
  | 0 => []
  | k + 1 => qnTake l k ++ distQ (l.take k) (l.getD k 0)
def hlL (l : List Rat) : List Rat := hlTake l l.length
def qnL (l : List Rat) : List Rat := qnTake l l.length
def qnQ (l : List Rat) : Rat := (srt (qnL l)).getD ((l.length / 2 + 1) * (l.length / 2 + 1 - 1) / 2 - 1) 0
theorem hlTake_len (l : List Rat) : ∀ k, k ≤ l.length → 2 * (hlTake l k).length = k * (k + 1)
  | 0, _ => rfl
  | k + 1, h => by
    have := hlTake_len l k (by omega)
    rw [hlTake, List.length_append, List.length_map, List.length_take, Nat.mul_add, this, show min (k + 1) l.length = k + 1 by omega, ← Nat.add_mul, Nat.mul_comm]
theorem hlL_len {l : List Rat} (h : l.length ≤ 12) (h0 : 0 < l.length) : (hlL l).length ≤ 78 ∧ 0 < (hlL l).length := by
  have := hlTake_len l l.length (Nat.le_refl _)
  unfold hlL
  generalize (hlTake l l.length).length = m at *
  generalize l.length = n at *
  have : n = 1 ∨ n = 2 ∨ n = 3 ∨ n = 4 ∨ n = 5 ∨ n = 6 ∨ n = 7 ∨ n = 8 ∨ n = 9 ∨ n = 10 ∨ n = 11 ∨ n = 12 := by omega
  rcases this with rfl | rfl | rfl | rfl | rfl | rfl | rfl | rfl | rfl | rfl | rfl | rfl <;> omega
def winL (s : List Rat) (g : Nat) : Nat → List Rat
  | 0 => s
  | i + 1 => ((winL s g i).set i ((winL s g i).getD g 0)).set (s.length - 1 - i) ((winL s g i).getD (s.length - 1 - g) 0)
theorem winL_len (s : List Rat) (g : Nat) : ∀ i, (winL s g i).length = s.length
  | 0 => rfl
  | i + 1 => by rw [winL, List.length_set, List.length_set, winL_len s g i]
theorem mem_set_or {l : List Rat} {i : Nat} {a q : Rat} (h : q ∈ l.set i a) : q = a ∨ q ∈ l := (List.mem_or_eq_of_mem_set h).symm
theorem winL_mem (s : List Rat) (g : Nat) (hg : g < s.length) : ∀ i, ∀ q ∈ winL s g i, q ∈ s
  | 0, q, hq => hq
  | i + 1, q, hq => by
    have ih := winL_mem s g hg i
    have hl := winL_len s g i
    have hin : ∀ k, k < s.length → (winL s g i).getD k 0 ∈ winL s g i := fun k hk => by
      rw [List.getD_eq_getElem?_getD, List.getElem?_eq_getElem (by omega), Option.getD_some]
      exact List.getElem_mem _
    rw [winL] at hq
    rcases mem_set_or hq with rfl | hq
    · exact ih _ (hin _ (by omega))
    · rcases mem_set_or hq with rfl | hq
      · exact ih _ (hin _ hg)
      · exact ih _ hq
def trimR (l : List Rat) (g : Nat) : List Rat := ((srt l).drop g).take (l.length - g - g)
def trimQ (l : List Rat) (g : Nat) : Rat := meanQ (trimR l g)
def winQ (l : List Rat) (g : Nat) : Rat := meanQ (winL (srt l) g g)
def cutE (n : Nat) (g : Int) : Int := if n < 1 then 10 else if 1024 < n then 2 else if g < 0 ∨ ((n : Int) - 1) / 2 < g then 1 else 0
end Go.Vw

/-
  Sorting by insertion into a list that is made anew. Conditions: as each says.
-/
set_option linter.unusedVariables false
set_option linter.unusedSimpArgs false
namespace Go.Vw
def posQ (x : Rat) : List Rat → Nat
  | [] => 0
  | y :: s => if x < y then 0 else posQ x s + 1
theorem posQ_le (x : Rat) : ∀ s : List Rat, posQ x s ≤ s.length
  | [] => Nat.le_refl _
  | y :: s => by
    unfold posQ
    split
    · exact Nat.zero_le _
    · have := posQ_le x s
      rw [List.length_cons]
      omega
theorem posQ_drop (x : Rat) {s : List Rat} {a : Nat} (h : a < s.length) : posQ x (s.drop a) = if x < s.getD a 0 then 0 else posQ x (s.drop (a + 1)) + 1 := by
  rw [List.drop_eq_getElem_cons h, List.getD_eq_getElem?_getD, List.getElem?_eq_getElem h, Option.getD_some]
  rfl
theorem posQ_end (x : Rat) {s : List Rat} {a : Nat} (h : ¬ a < s.length) : posQ x (s.drop a) = 0 := by
  rw [List.drop_eq_nil_of_le (by omega)]
  rfl
def insQ (x : Rat) (s : List Rat) : List Rat := s.take (posQ x s) ++ [x] ++ s.drop (posQ x s)
theorem insQ_cons (x y : Rat) (s : List Rat) : insQ x (y :: s) = if x < y then x :: y :: s else y :: insQ x s := by
  unfold insQ
  rw [posQ]
  split
  · simp
  · simp
theorem insQ_perm (x : Rat) (s : List Rat) : (insQ x s).Perm (x :: s) := by
  unfold insQ
  have h : (s.take (posQ x s) ++ s.drop (posQ x s)) = s := List.take_append_drop ..
  rw [List.append_assoc, List.singleton_append]
  refine List.perm_middle.trans ?_
  rw [h]
theorem insQ_asc (x : Rat) : ∀ {s : List Rat}, AscQ s → AscQ (insQ x s)
  | [], _ => by simp [insQ, posQ, AscQ]
  | y :: s, h => by
    rw [insQ_cons]
    have hy := List.pairwise_cons.1 h
    split
    · rename_i hlt
      refine List.pairwise_cons.2 ⟨fun z hz => ?_, h⟩
      rcases List.mem_cons.1 hz with rfl | hz
      · exact Rat.le_of_lt hlt
      · exact Rat.le_trans (Rat.le_of_lt hlt) (hy.1 z hz)
    · rename_i hlt
      refine List.pairwise_cons.2 ⟨fun z hz => ?_, insQ_asc x hy.2⟩
      rcases List.mem_cons.1 ((insQ_perm x s).subset hz) with rfl | hz
      · exact Rat.not_lt.1 hlt
      · exact hy.1 z hz
theorem ins_srt {l : List Rat} {i : Nat} (h : i < l.length) : insQ (l.getD i 0) (srt (l.take i)) = srt (l.take (i + 1)) := by
  refine srt_unique (insQ_asc _ (srt_asc _)) ((insQ_perm _ _).trans ?_)
  rw [List.take_add_one, List.getElem?_eq_getElem h, List.getD_eq_getElem?_getD, List.getElem?_eq_getElem h]
  simp only [Option.toList_some, Option.getD_some]
  exact ((srt_perm (l.take i)).cons _).trans (List.perm_append_singleton ..).symm
theorem gRv {vs : List R3} {i : Nat} (h : i < vs.length) : (vs.map rv).getD i 0 = rv (vs.getD i r0) := by
  simp [List.getD_eq_getElem?_getD, h]
theorem gMem {vs : List R3} {i : Nat} {p : R3 → Prop} (h : ∀ r ∈ vs, p r) (hi : i < vs.length) : p (vs.getD i r0) := by
  have e : vs.getD i r0 = vs[i] := by simp [List.getD_eq_getElem?_getD, hi]
  rw [e]; exact h _ (List.getElem_mem hi)
end Go.Vw

set_option linter.unusedVariables false
set_option linter.unusedSimpArgs false
set_option maxHeartbeats 8000000
namespace Go.Proofs.YtoppaphffnojdaaGreat
open Go.Vw
attribute [local irreducible] awp awpL awpR

abbrev qB (l : List Rat) : Blk := .data 27 3 qC 0 l
abbrev qO (n : Nat) : V := .own 500 0 n 27 3
theorem ownEq {k o n n' : Nat} {ty : TypeId} {sz : Nat} (h : n = n') : V.own k o n ty sz = V.own k o n' ty sz := by rw [h]
theorem qdEq {l l' : List Rat} (h : l = l') : V.d (.sl 3 qC 0 l) = V.d (qsD l') := by rw [h]
theorem srt_nil : srt [] = [] := by simp [srt]
theorem ref16_SortB (l : List R3) (hn : l.length ≤ 200) (hl : ∀ r ∈ l, RatOk r 1000) : RetB Tryz.prog 136 [.d (rsD l)] (lookB []) (qO l.length) (lookB [(500, qB (srt (l.map rv)))]) := by
  have hq : ∀ q ∈ l.map rv, okQ 1000 q := fun q hq => by
    obtain ⟨r, hr, rfl⟩ := List.mem_map.1 hq
    exact okQ_rv (hl r hr) (by decide)
  refine retB_of_awp tab [] Tryz.func136 rfl rfl rfl (Nat.le_of_ble_eq_true rfl) rfl trivial (fun w0 F0 A io0 => ?_)
  repeat' (first
    | (show awpL _ _ _ _ _; first | refine goL ?_ | (refine gdLG ?_ ?_ <;> intro _ <;> try (exfalso; omega)))
    | (show awp _ _ _ _; first | refine goA ?_ | refine rg 6 13 ?_ | refine rg 8 14 ?_ | (refine cdG ?_ ?_ <;> intro _ <;> try (exfalso; omega)))
    | (show andThen _ _ _ _; refine goN ?_)
    | (show inBlock _ _ _ _; refine goB ?_)
    | (show awpR _ _ _ _ _ _ _; first | refine goR ?_ | (refine gdRG ?_ ?_ <;> intro _ <;> try (exfalso; omega)))
    | (show retPost _ _ _ _ _; refine finG ?_)
    | (show retPostB _ _ _ _ _ _; first | refine finB rfl rfl ?_ ?_ | refine finBT rfl rfl rfl ?_ ?_))
  refine awp_adopt 3 500 27 3 qC 0 rfl ?_
  refine awp_loop1 (fun (i : Nat) => ([(0, .d (rsD l)), (3, qO i), (4, .d (.int .i64 i))], [(500, qB (srt ((l.map rv).take i)))])) (fun i => i ≤ l.length) (fun i => l.length - i) 0 (by omega) ⟨rfl, rfl, rfl, rfl⟩ ⟨blkEq (by rw [List.take_zero, srt_nil]), trivial⟩ (fun i hi => ?_)
  have hlen := srt_len ((l.map rv).take i)
  rw [List.length_take, List.length_map, show min i l.length = i by omega] at hlen
  by_cases h3 : i < l.length
  · have g1 := gMem hl h3
    have ho := srt_ok (takeQ_ok hq i)
    have hins := ins_srt (l := l.map rv) (i := i) (by rw [List.length_map]; exact h3)
    rw [gRv h3] at hins
    generalize srt ((l.map rv).take i) = s at *
    obtain ⟨s2, hs2⟩ : ∃ s2, srt ((l.map rv).take (i + 1)) = s2 := ⟨_, rfl⟩
    rw [hs2] at hins
    obtain ⟨p, hp⟩ : ∃ p, posQ (rv (l.getD i r0)) s = p := ⟨_, rfl⟩
    have hp2 := posQ_le (rv (l.getD i r0)) s
    unfold insQ at hins
    rw [hp] at hp2 hins
    repeat' (first
      | (show awpL _ _ _ _ _; first | refine goL ?_ | (refine gdLG ?_ ?_ <;> intro _ <;> try (exfalso; omega)))
      | (show awp _ _ _ _; first | refine stopA 6 tt ?_)
      | (show awp _ _ _ _; first | refine goA ?_ | refine rg 6 13 ?_ | refine rg 8 14 ?_ | (refine cdG ?_ ?_ <;> intro _ <;> try (exfalso; omega)))
      | (show andThen _ _ _ _; refine goN ?_)
      | (show inBlock _ _ _ _; refine goB ?_)
      | (show awpR _ _ _ _ _ _ _; first | refine goR ?_ | (refine gdRG ?_ ?_ <;> intro _ <;> try (exfalso; omega)))
      | (show retPost _ _ _ _ _; refine finG ?_)
      | (show retPostB _ _ _ _ _ _; first | refine finB rfl rfl ?_ ?_ | refine finBT rfl rfl rfl ?_ ?_))
    refine stopOut ?_
    refine awp_meet1 (fun (_ : Unit) => ([(0, .d (rsD l)), (3, qO i), (4, .d (.int .i64 i)), (5, .d (.int .i64 p))], [(500, qB s)])) (fun _ => True) (fun _ _ => ?_) ?_
    rotate_left
    · repeat' (first
        | (show awpL _ _ _ _ _; first | refine goL ?_ | (refine gdLG ?_ ?_ <;> intro _ <;> try (exfalso; omega)))
        | (show awp _ _ _ _; first | refine goA ?_ | refine rg 6 13 ?_ | refine rg 8 14 ?_ | (refine cdG ?_ ?_ <;> intro _ <;> try (exfalso; omega)))
        | (show andThen _ _ _ _; refine goN ?_)
        | (show inBlock _ _ _ _; refine goB ?_)
        | (show awpR _ _ _ _ _ _ _; first | refine goR ?_ | (refine gdRG ?_ ?_ <;> intro _ <;> try (exfalso; omega)))
        | (show retPost _ _ _ _ _; refine finG ?_)
        | (show retPostB _ _ _ _ _ _; first | refine finB rfl rfl ?_ ?_ | refine finBT rfl rfl rfl ?_ ?_))
      refine awp_loop1 (fun (a : Nat) => ([(0, .d (rsD l)), (3, qO i), (4, .d (.int .i64 i)), (5, .d (.int .i64 a))], [(500, qB s)])) (fun a => a ≤ i ∧ posQ (rv (l.getD i r0)) (s.drop a) + a = p) (fun a => i - a) 0 ⟨by omega, hp⟩ ⟨rfl, rfl, rfl, rfl, rfl⟩ ⟨rfl, trivial⟩ (fun a ha => ?_)
      obtain ⟨a1, a2⟩ := ha
      by_cases c1 : a < i
      · have lt := ref03_Less (l.getD i r0) (rq (s.getD a 0)) (g1.up (by decide)) (ok_rq ((getD_ok ho (by omega)).mono (by decide)))
        rw [rv_rq] at lt
        rw [posQ_drop _ (show a < s.length by omega)] at a2
        by_cases g : rv (l.getD i r0) < s.getD a 0
        · rw [if_pos g, Nat.zero_add] at a2
          rw [decide_eq_true g] at lt
          subst a2
          repeat' (first
            | (show awpL _ _ _ _ _; first | refine goL ?_ | refine cl 135 tt rfl rfl rfl (hr := lt) (k := ?_) | (refine gdLG ?_ ?_ <;> intro _ <;> try (exfalso; omega)))
            | (show awp _ _ _ _; first | refine goA ?_ | refine rg 6 13 ?_ | refine rg 8 14 ?_ | (refine cdG ?_ ?_ <;> intro _ <;> try (exfalso; omega)))
            | (show andThen _ _ _ _; refine goN ?_)
            | (show inBlock _ _ _ _; refine goB ?_)
            | (show awpR _ _ _ _ _ _ _; first | refine goR ?_ | refine clR 135 tt rfl rfl rfl (hr := lt) (k := ?_) | (refine gdRG ?_ ?_ <;> intro _ <;> try (exfalso; omega)))
            | (show retPost _ _ _ _ _; refine finG ?_)
            | (show retPostB _ _ _ _ _ _; first | refine finB rfl rfl ?_ ?_ | refine finBT rfl rfl rfl ?_ ?_))
          exact ⟨(), trivial, ⟨rfl, rfl, rfl, rfl, rfl⟩, rfl, trivial⟩
        · rw [if_neg g] at a2
          rw [decide_eq_false g] at lt
          repeat' (first
            | (show awpL _ _ _ _ _; first | refine goL ?_ | refine cl 135 tt rfl rfl rfl (hr := lt) (k := ?_) | (refine gdLG ?_ ?_ <;> intro _ <;> try (exfalso; omega)))
            | (show awp _ _ _ _; first | refine goA ?_ | refine rg 6 13 ?_ | refine rg 8 14 ?_ | (refine cdG ?_ ?_ <;> intro _ <;> try (exfalso; omega)))
            | (show andThen _ _ _ _; refine goN ?_)
            | (show inBlock _ _ _ _; refine goB ?_)
            | (show awpR _ _ _ _ _ _ _; first | refine goR ?_ | refine clR 135 tt rfl rfl rfl (hr := lt) (k := ?_) | (refine gdRG ?_ ?_ <;> intro _ <;> try (exfalso; omega)))
            | (show retPost _ _ _ _ _; refine finG ?_)
            | (show retPostB _ _ _ _ _ _; first | refine finB rfl rfl ?_ ?_ | refine finBT rfl rfl rfl ?_ ?_))
          exact ⟨a + 1, ⟨by omega, by omega⟩, by omega, ⟨rfl, rfl, rfl, iv (by omega), rfl⟩, rfl, trivial⟩
      · rw [posQ_end _ (show ¬ a < s.length by omega), Nat.zero_add] at a2
        subst a2
        repeat' (first
          | (show awpL _ _ _ _ _; first | refine goL ?_ | (refine gdLG ?_ ?_ <;> intro _ <;> try (exfalso; omega)))
          | (show awp _ _ _ _; first | refine goA ?_ | refine rg 6 13 ?_ | refine rg 8 14 ?_ | (refine cdG ?_ ?_ <;> intro _ <;> try (exfalso; omega)))
          | (show andThen _ _ _ _; refine goN ?_)
          | (show inBlock _ _ _ _; refine goB ?_)
          | (show awpR _ _ _ _ _ _ _; first | refine goR ?_ | (refine gdRG ?_ ?_ <;> intro _ <;> try (exfalso; omega)))
          | (show retPost _ _ _ _ _; refine finG ?_)
          | (show retPostB _ _ _ _ _ _; first | refine finB rfl rfl ?_ ?_ | refine finBT rfl rfl rfl ?_ ?_))
        exact ⟨(), trivial, ⟨rfl, rfl, rfl, rfl, rfl⟩, rfl, trivial⟩
    clear hp
    have tk := ref03_Take (l.getD i r0) (g1.up (by decide))
    have ecut : cut 0 i s = s := by rw [← hlen]; exact cut_all s
    refine awp_frz 500 rfl ?_
    refine awp_slots [(0, .d (rsD l)), (3, .d (qsD s)), (4, .d (.int .i64 i)), (5, .d (.int .i64 p))] [] ⟨rfl, qdEq ecut, rfl, rfl, rfl⟩ trivial ?_
    repeat' (first
      | (show awpL _ _ _ _ _; first | refine goL ?_ | refine cl 80 tt rfl rfl rfl (hr := tk) (k := ?_) | (refine gdLG ?_ ?_ <;> intro _ <;> try (exfalso; omega)))
      | (show awp _ _ _ _; first | refine stopA 4 tt ?_)
      | (show awp _ _ _ _; first | refine goA ?_ | refine awp_regA 8 14 [33] ?_ mixed (by kernel_rfl) rfl rfl | refine rg 6 13 ?_ | refine rg 8 14 ?_ | (refine cdG ?_ ?_ <;> intro _ <;> try (exfalso; omega)))
      | (show andThen _ _ _ _; refine goN ?_)
      | (show inBlock _ _ _ _; refine goB ?_)
      | (show awpA _ _ _ _ _ _ _; first | refine goAp ?_ | refine clA 80 tt rfl rfl rfl (hr := tk) (k := ?_))
      | (show awpR _ _ _ _ _ _ _; first | refine goR ?_ | refine clR 80 tt rfl rfl rfl (hr := tk) (k := ?_) | (refine gdRG ?_ ?_ <;> intro _ <;> try (exfalso; omega)))
      | (show retPost _ _ _ _ _; refine finG ?_)
      | (show retPostB _ _ _ _ _ _; first | refine finB rfl rfl ?_ ?_ | refine finBT rfl rfl rfl ?_ ?_))
    refine stopOut ?_
    refine awp_rename [(0, .d (rsD l)), (3, .own 33 0 (i + 1) 27 3), (4, .d (.int .i64 i))] [(33, qB s2)] [(33, 500)] ⟨rfl, ownEq (by simp <;> omega), rfl, rfl⟩ ⟨blkEq (by rw [← hins]), trivial⟩ ?_
    repeat' (first
      | (show awpL _ _ _ _ _; first | refine goL ?_ | (refine gdLG ?_ ?_ <;> intro _ <;> try (exfalso; omega)))
      | (show awp _ _ _ _; first | refine goA ?_ | refine rg 6 13 ?_ | refine rg 8 14 ?_ | (refine cdG ?_ ?_ <;> intro _ <;> try (exfalso; omega)))
      | (show andThen _ _ _ _; refine goN ?_)
      | (show inBlock _ _ _ _; refine goB ?_)
      | (show awpR _ _ _ _ _ _ _; first | refine goR ?_ | (refine gdRG ?_ ?_ <;> intro _ <;> try (exfalso; omega)))
      | (show retPost _ _ _ _ _; refine finG ?_)
      | (show retPostB _ _ _ _ _ _; first | refine finB rfl rfl ?_ ?_ | refine finBT rfl rfl rfl ?_ ?_))
    exact ⟨i + 1, by omega, by omega, ⟨rfl, rfl, iv (by omega), rfl⟩, blkEq hs2.symm, trivial⟩
  · have e : (l.map rv).take i = l.map rv := List.take_of_length_le (by rw [List.length_map]; omega)
    have hi' : i = l.length := by omega
    subst hi'
    rw [e] at hlen ⊢
    repeat' (first
      | (show awpL _ _ _ _ _; first | refine goL ?_ | (refine gdLG ?_ ?_ <;> intro _ <;> try (exfalso; omega)))
      | (show awp _ _ _ _; first | refine goA ?_ | refine rg 6 13 ?_ | refine rg 8 14 ?_ | (refine cdG ?_ ?_ <;> intro _ <;> try (exfalso; omega)))
      | (show andThen _ _ _ _; refine goN ?_)
      | (show inBlock _ _ _ _; refine goB ?_)
      | (show awpR _ _ _ _ _ _ _; first | refine goR ?_ | (refine gdRG ?_ ?_ <;> intro _ <;> try (exfalso; omega)))
      | (show retPost _ _ _ _ _; refine finG ?_)
      | (show retPostB _ _ _ _ _ _; first | refine finB rfl rfl ?_ ?_ | refine finBT rfl rfl rfl ?_ ?_))
    all_goals first | exact leVT | exact ⟨rfl, trivial⟩

theorem ref16_Sort (l : List R3) (hn : l.length ≤ 200) (hl : ∀ r ∈ l, RatOk r 1000) : Ret Tryz.prog 136 [rsD l] (· = qsD (srt (l.map rv))) :=
  (ref16_SortB l hn hl).toRet (ds := [rsD l]) true rfl (by rw [srt_len, List.length_map])
theorem ref16_check (l : List R3) (k : Int) (hl : l.length ≤ 9223372036854775807) : Ret Tryz.prog 134 [rsD l, .int .i64 k] (· = .int .i64 (chkO l.length k)) := by
  unfold chkO
  by_cases c1 : (l.length : Int) < k
  · rw [if_pos c1]
    refine ret_of_awp tab Tryz.func134 rfl rfl (Nat.le_of_ble_eq_true rfl) (fun w0 F0 => ?_)
    repeat' (first
      | (show awpL _ _ _ _ _; first | refine goL ?_ | (refine gdLG ?_ ?_ <;> intro _ <;> try (exfalso; omega)))
      | (show awp _ _ _ _; first | refine goA ?_ | (refine cdG ?_ ?_ <;> intro _ <;> try (exfalso; omega)))
      | (show andThen _ _ _ _; refine goN ?_)
      | (show inBlock _ _ _ _; refine goB ?_)
      | (show retPost _ _ _ _ _; refine finG ?_)
      | (show retPostB _ _ _ _ _ _; first | refine finB rfl rfl ?_ ?_ | refine finBT rfl rfl rfl ?_ ?_))
    all_goals rfl
  rw [if_neg c1]
  by_cases c2 : 1024 < l.length
  · rw [if_pos c2]
    refine ret_of_awp tab Tryz.func134 rfl rfl (Nat.le_of_ble_eq_true rfl) (fun w0 F0 => ?_)
    repeat' (first
      | (show awpL _ _ _ _ _; first | refine goL ?_ | (refine gdLG ?_ ?_ <;> intro _ <;> try (exfalso; omega)))
      | (show awp _ _ _ _; first | refine goA ?_ | (refine cdG ?_ ?_ <;> intro _ <;> try (exfalso; omega)))
      | (show andThen _ _ _ _; refine goN ?_)
      | (show inBlock _ _ _ _; refine goB ?_)
      | (show retPost _ _ _ _ _; refine finG ?_)
      | (show retPostB _ _ _ _ _ _; first | refine finB rfl rfl ?_ ?_ | refine finBT rfl rfl rfl ?_ ?_))
    all_goals rfl
  · rw [if_neg c2]
    refine ret_of_awp tab Tryz.func134 rfl rfl (Nat.le_of_ble_eq_true rfl) (fun w0 F0 => ?_)
    repeat' (first
      | (show awpL _ _ _ _ _; first | refine goL ?_ | (refine gdLG ?_ ?_ <;> intro _ <;> try (exfalso; omega)))
      | (show awp _ _ _ _; first | refine goA ?_ | (refine cdG ?_ ?_ <;> intro _ <;> try (exfalso; omega)))
      | (show andThen _ _ _ _; refine goN ?_)
      | (show inBlock _ _ _ _; refine goB ?_)
      | (show retPost _ _ _ _ _; refine finG ?_)
      | (show retPostB _ _ _ _ _ _; first | refine finB rfl rfl ?_ ?_ | refine finBT rfl rfl rfl ?_ ?_))
    all_goals rfl
end Go.Proofs.YtoppaphffnojdaaGreat

set_option linter.unusedVariables false
set_option linter.unusedSimpArgs false
set_option maxHeartbeats 8000000
namespace Go.Proofs.YtoppaphffnojdaaGreat
open Go.Vw
attribute [local irreducible] awp awpL awpR

def numQ (v : Int) : Rat := Rat.divInt (v % 61 - 30) (1 + v.tdiv 61 % 4)
def levQ (v : Int) : Rat := Rat.divInt (1 + v % 11) 12
end Go.Proofs.YtoppaphffnojdaaGreat

set_option linter.unusedVariables false
set_option linter.unusedSimpArgs false
set_option maxHeartbeats 8000000
namespace Go.Proofs.YtoppaphffnojdaaGreat
open Go.Vw
attribute [local irreducible] awp awpL awpR

theorem ref16_medians (l : List R3) (h0 : 0 < l.length) (hn : l.length ≤ 200) (hl : ∀ r ∈ l, RatOk r 1000) : Ret Tryz.prog 137 [rsD l] (· = .tup [qD (medLo (l.map rv)), qD (medHi (l.map rv))]) := by
  have hs := ref16_Sort l hn hl
  have hlen := srt_len (l.map rv)
  rw [List.length_map] at hlen
  unfold medLo medHi
  rw [List.length_map]
  generalize srt (l.map rv) = s at *
  have e1 : (((s.length : Int) + 1) / 2 - 1).toNat = (l.length + 1) / 2 - 1 := by omega
  have e2 : l.length / 2 = s.length / 2 := by omega
  rw [e2]
  refine ret_of_awp tab Tryz.func137 rfl rfl (Nat.le_of_ble_eq_true rfl) (fun w0 F0 => ?_)
  repeat' (first
    | (show awpL _ _ _ _ _; first | refine goL ?_ | refine cl 136 tt rfl rfl rfl (hr := hs) (k := ?_) | (refine gdLG ?_ ?_ <;> intro _ <;> try (exfalso; omega)))
    | (show awp _ _ _ _; first | refine goA ?_ | refine rgX 3 13 [] ?_ | (refine cdG ?_ ?_ <;> intro _ <;> try (exfalso; omega)))
    | (show andThen _ _ _ _; refine goN ?_)
    | (show inBlock _ _ _ _; refine goB ?_)
    | (show awpR _ _ _ _ _ _ _; first | refine goR ?_ | refine clR 136 tt rfl rfl rfl (hr := hs) (k := ?_) | (refine gdRG ?_ ?_ <;> intro _ <;> try (exfalso; omega)))
    | (show retPost _ _ _ _ _; refine finG ?_))
  all_goals rw [e1]
end Go.Proofs.YtoppaphffnojdaaGreat

set_option linter.unusedVariables false
set_option linter.unusedSimpArgs false
set_option maxHeartbeats 8000000
namespace Go.Proofs.YtoppaphffnojdaaGreat
open Go.Vw
attribute [local irreducible] awp awpL awpR

theorem made_LightR (r : R3) (h : RawR r) : Ret Tryz.prog 8 [rD r] (· = .bool (lightR r)) := by
  obtain ⟨h1, h2, h3, h4⟩ := h
  unfold lightR
  obtain ⟨x, m, d⟩ := r
  simp only at h3 h4 ⊢
  rw [show decide (m.length ≤ 8) = decide ((m.length : Int) ≤ 8) from decide_eq_decide.2 (by omega), show decide (d.length ≤ 8) = decide ((d.length : Int) ≤ 8) from decide_eq_decide.2 (by omega)]
  refine ret_of_awp tab Tryz.func8 rfl rfl (Nat.le_of_ble_eq_true rfl) (fun w0 F0 => ?_)
  repeat' (first
    | (show awpL _ _ _ _ _; first | refine goL ?_ | (refine gdLG ?_ ?_ <;> intro _ <;> try (exfalso; omega)))
    | (show awp _ _ _ _; first | refine goA ?_ | (refine cdG ?_ ?_ <;> intro _ <;> try (exfalso; omega)))
    | (show andThen _ _ _ _; refine goN ?_)
    | (show inBlock _ _ _ _; refine goB ?_)
    | (show retPost _ _ _ _ _; refine finG ?_))
  all_goals first | rfl | (rename_i hc; simp [hc])
theorem all_take {l : List R3} {p : R3 → Bool} {i : Nat} (h : i < l.length) : (l.take (i + 1)).all p = ((l.take i).all p && p (l.getD i r0)) := by
  rw [List.take_add_one, List.all_append, List.getD_eq_getElem?_getD, List.getElem?_eq_getElem h]
  simp
theorem made_LightList (l : List R3) (m : Nat) (h : ∀ r ∈ l, RawR r) (hn : l.length ≤ 9223372036854775807) (hm : m < 1000000) : Ret Tryz.prog 21 [rsD l, .int .i64 m] (· = .bool (decide (l.length ≤ m) && l.all lightR)) := by
  by_cases c : l.length ≤ m
  · rw [decide_eq_true c, Bool.true_and]
    refine ret_of_awp tab Tryz.func21 rfl rfl (Nat.le_of_ble_eq_true rfl) (fun w0 F0 => ?_)
    repeat' (first
      | (show awpL _ _ _ _ _; first | refine goL ?_ | (refine gdLG ?_ ?_ <;> intro _ <;> try (exfalso; omega)))
      | (show awp _ _ _ _; first | refine goA ?_ | (refine cdG ?_ ?_ <;> intro _ <;> try (exfalso; omega)))
      | (show andThen _ _ _ _; refine goN ?_)
      | (show inBlock _ _ _ _; refine goB ?_)
      | (show retPost _ _ _ _ _; refine finG ?_))
    refine awp_loop1 (fun (i : Nat) => ([(0, .d (rsD l)), (5, .d (.int .i64 i))], [])) (fun i => i ≤ l.length ∧ (l.take i).all lightR = true) (fun i => l.length - i) 0 ⟨by omega, rfl⟩ ⟨rfl, rfl, rfl⟩ trivial (fun i hi => ?_)
    obtain ⟨i1, i2⟩ := hi
    by_cases h3 : i < l.length
    · have g1 := gMem h h3
      have lt := made_LightR (l.getD i r0) g1
      have e := all_take (p := lightR) h3
      rw [i2, Bool.true_and] at e
      cases hb : lightR (l.getD i r0)
      · rw [hb] at lt e
        have : l.all lightR = false := by
          rw [← List.take_append_drop (i + 1) l, List.all_append, e, Bool.false_and]
        rw [this]
        clear h g1
        repeat' (first
          | (show awpL _ _ _ _ _; first | refine goL ?_ | refine cl 8 tt rfl rfl rfl (hr := lt) (k := ?_) | (refine gdLG ?_ ?_ <;> intro _ <;> try (exfalso; omega)))
          | (show awp _ _ _ _; first | refine goA ?_ | (refine cdG ?_ ?_ <;> intro _ <;> try (exfalso; omega)))
          | (show andThen _ _ _ _; refine goN ?_)
          | (show inBlock _ _ _ _; refine goB ?_)
          | (show retPost _ _ _ _ _; refine finG ?_))
        all_goals rfl
      · rw [hb] at lt e
        clear h g1
        repeat' (first
          | (show awpL _ _ _ _ _; first | refine goL ?_ | refine cl 8 tt rfl rfl rfl (hr := lt) (k := ?_) | (refine gdLG ?_ ?_ <;> intro _ <;> try (exfalso; omega)))
          | (show awp _ _ _ _; first | refine goA ?_ | (refine cdG ?_ ?_ <;> intro _ <;> try (exfalso; omega)))
          | (show andThen _ _ _ _; refine goN ?_)
          | (show inBlock _ _ _ _; refine goB ?_)
          | (show retPost _ _ _ _ _; refine finG ?_))
        exact ⟨i + 1, ⟨by omega, e⟩, by omega, ⟨rfl, iv (by omega), rfl⟩, trivial⟩
    · have e : l.take i = l := List.take_of_length_le (by omega)
      rw [e] at i2
      rw [i2]
      repeat' (first
        | (show awpL _ _ _ _ _; first | refine goL ?_ | (refine gdLG ?_ ?_ <;> intro _ <;> try (exfalso; omega)))
        | (show awp _ _ _ _; first | refine goA ?_ | (refine cdG ?_ ?_ <;> intro _ <;> try (exfalso; omega)))
        | (show andThen _ _ _ _; refine goN ?_)
        | (show inBlock _ _ _ _; refine goB ?_)
        | (show retPost _ _ _ _ _; refine finG ?_))
      all_goals rfl
  · rw [decide_eq_false c, Bool.false_and]
    refine ret_of_awp tab Tryz.func21 rfl rfl (Nat.le_of_ble_eq_true rfl) (fun w0 F0 => ?_)
    repeat' (first
      | (show awpL _ _ _ _ _; first | refine goL ?_ | (refine gdLG ?_ ?_ <;> intro _ <;> try (exfalso; omega)))
      | (show awp _ _ _ _; first | refine goA ?_ | (refine cdG ?_ ?_ <;> intro _ <;> try (exfalso; omega)))
      | (show andThen _ _ _ _; refine goN ?_)
      | (show inBlock _ _ _ _; refine goB ?_)
      | (show retPost _ _ _ _ _; refine finG ?_))
    all_goals rfl
def lightLs (l : List R3) (m : Nat) : Bool := decide (l.length ≤ m) && l.all lightR
theorem ref16_Median (l : List R3) (h0 : 0 < l.length) (hn : l.length ≤ 200) (hl : ∀ r ∈ l, RatOk r 1000) : Ret Tryz.prog 103 [rsD l] (· = .tup [qD (medLo (l.map rv)), qD (medHi (l.map rv)), .int .i64 0]) := by
  have hc := ref16_check l 1 (by omega)
  rw [show chkO l.length 1 = 0 by unfold chkO; rw [if_neg (by omega), if_neg (by omega)]] at hc
  have hm := ref16_medians l h0 hn hl
  generalize medLo (l.map rv) = a at *
  generalize medHi (l.map rv) = b at *
  refine ret_of_awp tab Tryz.func103 rfl rfl (Nat.le_of_ble_eq_true rfl) (fun w0 F0 => ?_)
  repeat' (first
    | (show awpL _ _ _ _ _; first | refine goL ?_ | refine cl 134 tt rfl rfl rfl (hr := hc) (k := ?_) | refine cl 137 tt rfl rfl rfl (hr := hm) (k := ?_) | (refine gdLG ?_ ?_ <;> intro _ <;> try (exfalso; omega)))
    | (show awp _ _ _ _; first | refine goA ?_ | refine rgX 5 3 [] ?_ | (refine cdG ?_ ?_ <;> intro _ <;> try (exfalso; omega)))
    | (show andThen _ _ _ _; refine goN ?_)
    | (show inBlock _ _ _ _; refine goB ?_)
    | (show awpR _ _ _ _ _ _ _; first | refine goR ?_ | refine clR 134 tt rfl rfl rfl (hr := hc) (k := ?_) | refine clR 137 tt rfl rfl rfl (hr := hm) (k := ?_) | (refine gdRG ?_ ?_ <;> intro _ <;> try (exfalso; omega)))
    | (show retPost _ _ _ _ _; refine finG ?_))
  rfl
theorem ceil_lo {x : Rat} {n : Nat} (hn : 0 < n) (h0 : 0 ≤ x) (h1 : x ≤ ((n : Int) : Rat)) : 0 ≤ -(-x).floor ∧ -(-x).floor ≤ n ∧ (min (max (-(-x).floor) 1) (n : Int) - 1) = (min (if 0 < x.floor ∧ x = (x.floor : Int) then x.floor - 1 else x.floor) ((n : Int) - 1)) := by
  have f1 := Rat.floor_le x
  have f2 := Rat.lt_floor_add_one x
  have g1 := Rat.floor_le (-x)
  have g2 := Rat.lt_floor_add_one (-x)
  have fn := nonneg_floor h0
  have fm := floor_le_nat h1
  generalize (-x).floor = c at *
  generalize x.floor = f at *
  have e1 : ((c : Int) : Rat) ≤ ((-f : Int) : Rat) := by
    have : ((-f : Int) : Rat) = -(f : Rat) := Rat.intCast_neg f
    rw [this]; grind
  have e1 := Rat.intCast_le_intCast.1 e1
  have e2 : ((-f - 1 : Int) : Rat) < ((c + 1 : Int) : Rat) := by
    rw [Rat.intCast_sub, Rat.intCast_neg, Rat.intCast_add, show ((1 : Int) : Rat) = 1 from rfl]; grind
  have e2 := Rat.intCast_lt_intCast.1 e2
  by_cases hx : x = (f : Rat)
  · have e3 : c = -f := by
      have h3 : ((-f : Int) : Rat) < ((c + 1 : Int) : Rat) := by
        rw [Rat.intCast_neg, Rat.intCast_add, show ((1 : Int) : Rat) = 1 from rfl]; grind
      have := Rat.intCast_lt_intCast.1 h3
      omega
    subst e3
    by_cases hf : 0 < f
    · rw [if_pos ⟨hf, hx⟩]; omega
    · rw [if_neg (fun h => hf h.1)]; omega
  · have e3 : c = -f - 1 := by
      have h3 : ((c : Int) : Rat) < ((-f : Int) : Rat) := by
        rw [Rat.intCast_neg]
        have : (f : Rat) < x := by grind
        grind
      have := Rat.intCast_lt_intCast.1 h3
      omega
    have hfn : f < n := by
      have h3 : ((f : Int) : Rat) < ((n : Int) : Rat) := by
        have : (f : Rat) < x := by grind
        grind
      exact Rat.intCast_lt_intCast.1 h3
    subst e3
    rw [if_neg (fun h => hx h.2)]
    omega
theorem ref16_Quantile (l : List R3) (p : R3) (h0 : 0 < l.length) (hn : l.length ≤ 200) (hl : ∀ r ∈ l, RatOk r 1000) (hp : RatOk p 1000) (p0 : 0 ≤ rv p) (p1 : rv p ≤ 1) : Ret Tryz.prog 102 [rsD l, rD p] (· = .tup [qD (qLo (l.map rv) (rv p)), qD (qHi (l.map rv) (rv p)), .int .i64 0]) := by
  have hc := ref16_check l 1 (by omega)
  rw [show chkO l.length 1 = 0 by unfold chkO; rw [if_neg (by omega), if_neg (by omega)]] at hc
  have sg := ref03_Sign p (hp.up (by decide))
  have hs0 : 0 ≤ (rv p).num.sign := Int.sign_nonneg_iff.2 (Rat.num_nonneg.2 p0)
  have f1 := ref03_FromIntW 1 (by decide) (by decide)
  rw [show ((1 : Int) : Rat) = 1 from rfl] at f1
  have c1 := ref03_Less (rq 1) p (ok_rq (okQ_one.mono (by decide))) (hp.up (by decide))
  rw [rv_rq, decide_eq_false (Rat.not_lt.2 p1)] at c1
  have hs := ref16_Sort l hn hl
  have hlen := srt_len (l.map rv)
  rw [List.length_map] at hlen
  have kp : okQ 1000 (rv p) := okQ_rv hp (by decide)
  have kn : okQ 10 ((l.length : Int) : Rat) := ok_intW (by omega)
  have fn := ref03_FromIntW (l.length : Int) (by omega) (by omega)
  have mu := ref03_Mul p (rq ((l.length : Int) : Rat)) (hp.up (by decide)) (ok_rq (kn.mono (by decide)))
  rw [rv_rq] at mu
  have b0 := mul_nat_nonneg l.length p0
  have b1 := mul_nat_le l.length p1
  have bn := floor_le_nat b1
  have b2 := nonneg_floor b0
  obtain ⟨q1, q2, q3⟩ := ceil_lo h0 b0 b1
  unfold qLo qHi qFirst
  rw [List.length_map, ← q3]
  have kat := kp.mul kn
  have fl := ref03_FloorQ (rv p * ((l.length : Int) : Rat)) (kat.mono (by decide))
  have ng := ref03_NegQ (rv p * ((l.length : Int) : Rat)) (kat.mono (by decide))
  have fl2 := ref03_FloorQ (-(rv p * ((l.length : Int) : Rat))) (kat.neg.mono (by decide))
  generalize rv p * ((l.length : Int) : Rat) = x at *
  generalize ((l.length : Int) : Rat) = nq at *
  generalize -x = nx at *
  generalize x.floor = f at *
  generalize nx.floor = c at *
  obtain ⟨k, rfl⟩ : ∃ m : Nat, f = m := ⟨f.toNat, by omega⟩
  obtain ⟨u, hu⟩ : ∃ m : Nat, -c = m := ⟨(-c).toNat, by omega⟩
  have hcu : c = -(u : Int) := by omega
  subst hcu
  have lz : (limbs (-(u : Int)).natAbs).length < 100000000000 := by
    rw [show (-(u : Int)).natAbs = u by omega]
    exact Nat.lt_of_le_of_lt (u64_len (v := u) (by omega)) (by decide)
  have nz := ref02_NegZ (-(u : Int)) lz
  rw [Int.neg_neg] at nz q1 q2 q3 ⊢
  have t1 := ref02_ToIntN k (by omega)
  have t2 := ref02_ToIntN u (by omega)
  generalize srt (l.map rv) = s at *
  generalize (1 : Rat) = one at *
  generalize (rv p).num.sign = sp at *
  clear p0 p1 b0 b1 kp kn kat lz q3 hu
  refine ret_of_awp tab Tryz.func102 rfl rfl (Nat.le_of_ble_eq_true rfl) (fun w0 F0 => ?_)
  repeat' (first
    | (show awpL _ _ _ _ _; first | refine goL ?_ | refine cl 134 tt rfl rfl rfl (hr := hc) (k := ?_) | refine cl 50 tt rfl rfl rfl (hr := sg) (k := ?_) | refine cl 17 tt rfl rfl rfl (hr := f1) (k := ?_) | refine cl 135 tt rfl rfl rfl (hr := c1) (k := ?_) | refine cl 136 tt rfl rfl rfl (hr := hs) (k := ?_) | refine cl 17 tt rfl rfl rfl (hr := fn) (k := ?_) | refine cl 41 tt rfl rfl rfl (hr := mu) (k := ?_) | refine cl 39 tt rfl rfl rfl (hr := fl) (k := ?_) | refine cl 38 tt rfl rfl rfl (hr := t1) (k := ?_) | refine cl 85 tt rfl rfl rfl (hr := ng) (k := ?_) | refine cl 39 tt rfl rfl rfl (hr := fl2) (k := ?_) | refine cl 92 tt rfl rfl rfl (hr := nz) (k := ?_) | refine cl 38 tt rfl rfl rfl (hr := t2) (k := ?_) | (refine gdLG ?_ ?_ <;> intro _ <;> try (exfalso; omega)))
    | (show awp _ _ _ _; first | refine goA ?_ | refine rg 4 6 ?_ | refine rgK 8 5 [10] ?_ | refine rgX 11 17 [] ?_ | (refine cdG ?_ ?_ <;> intro _ <;> try (exfalso; omega)))
    | (show andThen _ _ _ _; refine goN ?_)
    | (show inBlock _ _ _ _; refine goB ?_)
    | (show awpR _ _ _ _ _ _ _; first | refine goR ?_ | refine clR 134 tt rfl rfl rfl (hr := hc) (k := ?_) | refine clR 50 tt rfl rfl rfl (hr := sg) (k := ?_) | refine clR 17 tt rfl rfl rfl (hr := f1) (k := ?_) | refine clR 135 tt rfl rfl rfl (hr := c1) (k := ?_) | refine clR 136 tt rfl rfl rfl (hr := hs) (k := ?_) | refine clR 17 tt rfl rfl rfl (hr := fn) (k := ?_) | refine clR 41 tt rfl rfl rfl (hr := mu) (k := ?_) | refine clR 39 tt rfl rfl rfl (hr := fl) (k := ?_) | refine clR 38 tt rfl rfl rfl (hr := t1) (k := ?_) | refine clR 85 tt rfl rfl rfl (hr := ng) (k := ?_) | refine clR 39 tt rfl rfl rfl (hr := fl2) (k := ?_) | refine clR 92 tt rfl rfl rfl (hr := nz) (k := ?_) | refine clR 38 tt rfl rfl rfl (hr := t2) (k := ?_) | (refine gdRG ?_ ?_ <;> intro _ <;> try (exfalso; omega)))
    | (show retPost _ _ _ _ _; refine finG ?_))
  all_goals rw [hlen, show (min ((k : Int) + 1) (l.length : Int) - 1).toNat = (min (k : Int) ((l.length : Int) - 1)).toNat by omega]
end Go.Proofs.YtoppaphffnojdaaGreat

set_option linter.unusedVariables false
set_option linter.unusedSimpArgs false
set_option maxHeartbeats 8000000
namespace Go.Proofs.YtoppaphffnojdaaGreat
open Go.Vw
attribute [local irreducible] awp awpL awpR

end Go.Proofs.YtoppaphffnojdaaGreat

set_option linter.unusedVariables false
set_option linter.unusedSimpArgs false
set_option maxHeartbeats 16000000
namespace Go.Proofs.YtoppaphffnojdaaGreat
open Go.Vw
attribute [local irreducible] awp awpL awpR

end Go.Proofs.YtoppaphffnojdaaGreat

set_option linter.unusedVariables false
set_option linter.unusedSimpArgs false
set_option maxHeartbeats 16000000
namespace Go.Proofs.YtoppaphffnojdaaGreat
open Go.Vw
attribute [local irreducible] awp awpL awpR

end Go.Proofs.YtoppaphffnojdaaGreat

/-
  Estimates of lists in another order, of lists that are moved and scaled, and where estimates lie. Conditions: as each says.
-/
set_option linter.unusedVariables false
set_option linter.unusedSimpArgs false
namespace Go.Vw
def prTake (f : Rat → Rat → Rat) (l : List Rat) : Nat → List Rat
  | 0 => []
  | k + 1 => prTake f l k ++ (l.take k).map fun x => f x (l.getD k 0)
def prL (f : Rat → Rat → Rat) (l : List Rat) : List Rat := prTake f l l.length
def estL (l : List Rat) (p : Rat) (g : Nat) : List Rat := [medLo l, medHi l, midQ l, qLo l p, qHi l p, medLo (hlL l), medHi (hlL l), trimQ l g, winQ l g, midQ (distQ l (midQ l)), qnQ l]
/-! ## Moved and scaled -/
theorem srt_map {φ : Rat → Rat} (hm : ∀ x y, x ≤ y → φ x ≤ φ y) (l : List Rat) : srt (l.map φ) = (srt l).map φ := by
  refine (srt_unique ?_ ((srt_perm l).map φ)).symm
  exact List.pairwise_map.2 ((srt_asc l).imp fun h => hm _ _ h)
theorem getD_map_in {φ : Rat → Rat} {l : List Rat} {i : Nat} (h : i < l.length) : (l.map φ).getD i 0 = φ (l.getD i 0) := by
  rw [List.getD_eq_getElem?_getD, List.getD_eq_getElem?_getD, List.getElem?_map, List.getElem?_eq_getElem h]
  rfl
theorem med_map {φ : Rat → Rat} (hm : ∀ x y, x ≤ y → φ x ≤ φ y) {l : List Rat} (h0 : 0 < l.length) : medLo (l.map φ) = φ (medLo l) ∧ medHi (l.map φ) = φ (medHi l) := by
  unfold medLo medHi
  rw [srt_map hm, List.length_map]
  exact ⟨getD_map_in (by rw [srt_len]; omega), getD_map_in (by rw [srt_len]; omega)⟩
/-! ## Where estimates lie -/
def Within (a b : Rat) (l : List Rat) : Prop := ∀ x ∈ l, a ≤ x ∧ x ≤ b
theorem getD_mem_in {l : List Rat} {i : Nat} (h : i < l.length) : l.getD i 0 ∈ l := by
  rw [List.getD_eq_getElem?_getD, List.getElem?_eq_getElem h]
  exact List.getElem_mem h
theorem Within.srt {a b : Rat} {l : List Rat} (h : Within a b l) : Within a b (srt l) := fun x hx => h x ((srt_perm l).subset hx)
theorem Within.get {a b : Rat} {l : List Rat} (h : Within a b l) {i : Nat} (hi : i < l.length) : a ≤ l.getD i 0 ∧ l.getD i 0 ≤ b := h _ (getD_mem_in hi)
theorem Within.med {a b : Rat} {l : List Rat} (h : Within a b l) (h0 : 0 < l.length) : (a ≤ medLo l ∧ medLo l ≤ b) ∧ (a ≤ medHi l ∧ medHi l ≤ b) ∧ a ≤ midQ l ∧ midQ l ≤ b := by
  have hl := srt_len l
  have h1 := h.srt.get (i := (l.length + 1) / 2 - 1) (by omega)
  have h2 := h.srt.get (i := l.length / 2) (by omega)
  refine ⟨h1, h2, ?_⟩
  unfold midQ medLo medHi
  constructor <;> grind
theorem Within.sum {a b : Rat} : ∀ {l : List Rat}, Within a b l → ((l.length : Int) : Rat) * a ≤ sumQ l ∧ sumQ l ≤ ((l.length : Int) : Rat) * b
  | [], _ => by
    rw [sumQ_nil, List.length_nil]
    rw [show (((0 : Nat) : Int) : Rat) = 0 from rfl]
    constructor <;> grind
  | x :: l, h => by
    obtain ⟨h1, h2⟩ := Within.sum (l := l) fun y hy => h y (List.mem_cons_of_mem _ hy)
    have hx := h x List.mem_cons_self
    rw [sumQ_cons, List.length_cons, show (((l.length + 1 : Nat) : Int) : Rat) = ((l.length : Int) : Rat) + 1 by rw [Int.natCast_add, Rat.intCast_add]; rfl]
    constructor <;> grind
theorem Within.mean {a b : Rat} {l : List Rat} (h : Within a b l) (h0 : 0 < l.length) : a ≤ meanQ l ∧ meanQ l ≤ b := by
  obtain ⟨h1, h2⟩ := h.sum
  have hp : (0 : Rat) < ((l.length : Int) : Rat) := by
    have : ((0 : Int) : Rat) < ((l.length : Int) : Rat) := Rat.intCast_lt_intCast.2 (by omega)
    exact this
  unfold meanQ
  generalize ((l.length : Int) : Rat) = n at *
  have e : sumQ l = (sumQ l / n) * n := (Rat.div_mul_cancel (by grind)).symm
  constructor
  · refine Rat.not_lt.1 fun hlt => ?_
    have := Rat.mul_lt_mul_of_pos_right hlt hp
    grind
  · refine Rat.not_lt.1 fun hlt => ?_
    have := Rat.mul_lt_mul_of_pos_right hlt hp
    grind
theorem Within.hl {a b : Rat} {l : List Rat} (h : Within a b l) : ∀ k, k ≤ l.length → Within a b (hlTake l k)
  | 0, _ => fun x hx => by simp [hlTake] at hx
  | k + 1, hk => fun x hx => by
    rw [hlTake, List.mem_append] at hx
    rcases hx with hx | hx
    · exact h.hl k (by omega) x hx
    · obtain ⟨y, hy, rfl⟩ := List.mem_map.1 hx
      have h1 := h y (List.mem_of_mem_take hy)
      have h2 := h.get (i := k) (by omega)
      constructor <;> grind
theorem Within.est {a b : Rat} {l : List Rat} (h : Within a b l) (h0 : 2 ≤ l.length) (hn : l.length ≤ 12) (p : Rat) {g : Nat} (hg : g ≤ (l.length - 1) / 2) : Within a b ((estL l p g).take 9) := by
  have hsl := srt_len l
  obtain ⟨m1, m2, m3⟩ := h.med (by omega)
  obtain ⟨h1, h2, _⟩ := (show Within a b (hlL l) from h.hl _ (Nat.le_refl _)).med (hlL_len hn (by omega)).2
  have q1 := h.srt.get (i := (min (qFirst p l.length) ((l.length : Int) - 1)).toNat) (by omega)
  have q2 := h.srt.get (i := (min (p * (l.length : Int)).floor ((l.length : Int) - 1)).toNat) (by omega)
  have t1 : a ≤ trimQ l g ∧ trimQ l g ≤ b := Within.mean (fun x hx => h.srt x (by unfold trimR at hx; exact List.mem_of_mem_drop (List.mem_of_mem_take hx))) (by unfold trimR; rw [List.length_take, List.length_drop, hsl]; omega)
  have w1 : a ≤ winQ l g ∧ winQ l g ≤ b := Within.mean (fun x hx => h.srt x (winL_mem _ g (by omega) g x hx)) (by rw [winL_len]; omega)
  intro x hx
  simp only [estL, List.take_succ_cons, List.take_zero, List.mem_cons, List.not_mem_nil, or_false] at hx
  rcases hx with rfl | rfl | rfl | rfl | rfl | rfl | rfl | rfl | rfl
  · exact m1
  · exact m2
  · exact m3
  · exact q1
  · exact q2
  · exact h1
  · exact h2
  · exact t1
  · exact w1
end Go.Vw

/-
  Permutations that are made of numbers. Conditions: as each says.
-/
set_option linter.unusedVariables false
set_option linter.unusedSimpArgs false
namespace Go.Vw
def permZ (n : Nat) (raw : List Int) : Nat → List Int
  | 0 => (List.range n).map fun (i : Nat) => (i : Int)
  | i + 1 => ((permZ n raw i).set i ((permZ n raw i).getD (raw.getD i 0 % (n : Int)).toNat 0)).set (raw.getD i 0 % (n : Int)).toNat ((permZ n raw i).getD i 0)
def pick (l : List Rat) (q : List Int) : List Rat := q.map fun z => l.getD z.toNat 0
end Go.Vw

set_option linter.unusedVariables false
set_option linter.unusedSimpArgs false
set_option maxHeartbeats 16000000
namespace Go.Proofs.YtoppaphffnojdaaGreat
open Go.Vw
attribute [local irreducible] awp awpL awpR

abbrev iB (l : List Int) : Blk := .data 3 1 (eI .i64) 0 l
end Go.Proofs.YtoppaphffnojdaaGreat
