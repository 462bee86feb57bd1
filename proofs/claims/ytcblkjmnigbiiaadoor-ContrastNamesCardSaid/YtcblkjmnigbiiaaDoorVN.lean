/-
  Regions whose order is drawn: what leaves memory as it was, or makes data, comes out the same in every order. Conditions: the table of types is the program's; Region facts are closed.
-/
import Derived.Test.YtcblkjmnigbiiaaDoorVM
set_option linter.unusedSimpArgs false
set_option linter.unusedVariables false
set_option linter.unusedSectionVars false
namespace Go.Vw
open Go.RowKit

/-- Operations one by one, each of them yielding a value. -/
inductive MRun (X : Ctx) (all : Array Oper) : List Oper → St → St → Prop
  | nil {s : St} : MRun X all [] s s
  | cons {o : Oper} {rest : List Oper} {s s' : St} {x : V} (hd : dstOk X.N o.dst = true) (h : M1 X all s o x) (k : MRun X all rest (s.put o.dst x) s') : MRun X all (o :: rest) s s'

theorem M1.congr {X : Ctx} {all : Array Oper} {s s' : St} {o : Oper} {x : V} (hb : s'.blk = s.blk) (h : ∀ t ∈ o.looksAt all, s'.tmps t = s.tmps t) (hm : M1 X all s o x) : M1 X all s' o x := fun io F a w ht hbl hF K Q hK => by
  have hk : s'.keys io = s.keys io := by
    have : s'.ln = s.ln := by funext k; simp only [St.ln, hb]
    simp only [St.keys, this]
  rw [hk] at ht hbl
  refine hm io F a w (fun t htt => by rw [← h t htt]; exact ht t htt) (fun k b e => hbl k b (by rw [hb]; exact e)) hF K Q fun F' w' v h1 h2 h3 h4 => hK F' w' v h1 h2 h3 (by rw [hk]; exact h4)

theorem m1_sound {X : Ctx} {io : Nat → Option Nat} {F : Nat → Prop} {s : St} {a : Act} {w : World} (hs : SR X io F s a w) {all : Array Oper} {o : Oper} {x : V} (hd : dstOk X.N o.dst = true) (h : M1 X all s o x) {K : Act → World → Prop} {Q : Exit → Act → World → Prop}
    (hK : ∀ F' a' w', SR X io F' (s.put o.dst x) a' w' → K a' w') : opWp X.P all o a w K Q :=
  h io F a w (fun t _ => hs.tm t) hs.bl (fun b hb => (hs.ff b hb).1) K Q fun F' w' v h1 h2 h3 h4 => hK F' _ _ ((hs.grow h1 h2 h3).put (dstOk_sound hd) h4)

/-! ## Which operations are forced behind which -/

def direct (o : Oper) (j : Nat) : Bool := o.after.any fun e => Region.binds .any e && Nat.beq e.on j

/-- For each operation the set (as a number) of those that come before it in every order. -/
def masks : List Oper → List Nat → List Nat
  | [], acc => acc
  | o :: rest, acc => masks rest (acc ++ [o.after.toList.foldl (fun m e => bif Region.binds .any e then (m ||| 2 ^ e.on ||| acc.getD e.on 0) else m) 0])

def dstAt (ops : Array Oper) (j : Nat) : Option Tmp := (ops[j]?).bind (·.dst)

def backward (ops : Array Oper) : Bool := (List.range ops.size).all fun i => match ops[i]? with | some o => o.after.toList.all fun e => !Region.binds .any e || Nat.blt e.on i | none => true

def monoOk (ops : Array Oper) (n : Nat) : Bool :=
  backward ops && Nat.ble n ops.size &&
  ((List.range n).all fun i => match ops[i]? with
    | some o => (match o.dst with | some d => (List.range n).all fun j => Nat.beq j i || !(dstAt ops j == some d) | none => false) &&
        (o.looksAt ops).all fun t => (List.range n).all fun j => !(dstAt ops j == some t) || direct o j
    | none => false) &&
  ((List.range ops.size).all fun i => Nat.blt i n || Nat.beq ((masks ops.toList []).getD i 0) (2 ^ i - 1))

theorem direct_spec {o : Oper} {j : Nat} (h : direct o j = true) : ∃ e ∈ o.after, Region.binds .any e = true ∧ e.on = j := by
  unfold direct at h
  rw [Array.any_eq_true'] at h
  obtain ⟨e, he, h⟩ := h
  simp only [Bool.and_eq_true] at h
  exact ⟨e, he, h.1, Nat.eq_of_beq_eq_true h.2⟩

/-- If all direct forerunners are listed, and the list is closed, so are all of the mask. -/
theorem masks_spec (L : Nat → Prop) : ∀ (l : List Oper) (acc : List Nat) (base : Nat), acc.length = base →
    (∀ i, i < acc.length → L i → ∀ j, (acc.getD i 0).testBit j = true → L j) →
    (∀ k o, l[k]? = some o → L (base + k) → ∀ e ∈ o.after, Region.binds .any e = true → L e.on) →
    (∀ k o, l[k]? = some o → ∀ e ∈ o.after, Region.binds .any e = true → e.on < base + k) →
    ∀ i, L i → ∀ j, ((masks l acc).getD i 0).testBit j = true → L j
  | [], acc, base, hlen, hacc, _, _, i, hi, j, hj => by
    simp only [masks] at hj
    by_cases h : i < acc.length
    · exact hacc i h hi j hj
    · simp [List.getD, List.getElem?_eq_none (show acc.length ≤ i by omega)] at hj
  | o :: rest, acc, base, hlen, hacc, hdir, hbk, i, hi, j, hj => by
    simp only [masks] at hj
    refine masks_spec L rest _ (base + 1) (by simp [hlen]) ?_ (fun k o' h1 h2 => hdir (k + 1) o' (by simpa using h1) (by rwa [show base + (k + 1) = base + 1 + k by omega])) (fun k o' h1 e he hb => by have := hbk (k + 1) o' (by simpa using h1) e he hb; omega) i hi j hj
    intro i' hi' hL j' hj'
    by_cases h : i' < acc.length
    · refine hacc i' h hL j' ?_
      simpa [List.getD, List.getElem?_append_left h] using hj'
    · have hi2 : i' = base := by simp at hi'; omega
      subst hi2
      have hd := hdir 0 o (by simp) (by simpa using hL)
      have hb := hbk 0 o (by simp)
      have hval : (acc ++ [o.after.toList.foldl (fun m e => bif Region.binds .any e then (m ||| 2 ^ e.on ||| acc.getD e.on 0) else m) 0]).getD i' 0 = o.after.toList.foldl (fun m e => bif Region.binds .any e then (m ||| 2 ^ e.on ||| acc.getD e.on 0) else m) 0 := by
        rw [← hlen]; simp [List.getD]
      rw [hval] at hj'
      have fold : ∀ (es : List Edge) (m : Nat), (∀ e ∈ es, e ∈ o.after) → (m.testBit j' = true → L j') → (es.foldl (fun m e => bif Region.binds .any e then (m ||| 2 ^ e.on ||| acc.getD e.on 0) else m) m).testBit j' = true → L j' := by
        intro es
        induction es with
        | nil => intro m _ hm h; exact hm h
        | cons e es ih =>
          intro m hes hm h
          simp only [List.foldl_cons] at h
          refine ih _ (fun e' he' => hes e' (by simp [he'])) ?_ h
          intro hb2
          cases hbind : Region.binds .any e with
          | false => rw [hbind] at hb2; exact hm (by simpa using hb2)
          | true =>
            rw [hbind] at hb2
            simp only [cond_true, Nat.testBit_or, Bool.or_eq_true] at hb2
            have he := hd e (hes e (by simp)) hbind
            rcases hb2 with (h | h) | h
            · exact hm h
            · rw [Nat.testBit_two_pow] at h
              have : e.on = j' := by simpa using h
              rw [← this]; exact he
            · have hlt := hb e (hes e (by simp)) hbind
              exact hacc e.on (by omega) he j' h
      exact fold _ 0 (fun e he => by simpa using he) (fun h => by simp at h) hj'

/-- The state where the operations of L have been carried out. -/
def exSt (s : St) (ops : Array Oper) (n : Nat) (xs : Nat → V) (L : Nat → Bool) : St :=
  { tmps := fun t => match (List.range n).find? (fun j => L j && (dstAt ops j == some t)) with | some j => xs j | none => s.tmps t, blk := s.blk, dfs := s.dfs }

structure MonoFacts (ops : Array Oper) (n : Nat) : Prop where
  back : ∀ i o, ops[i]? = some o → ∀ e ∈ o.after, Region.binds .any e = true → e.on < i
  le : n ≤ ops.size
  dst : ∀ i, i < n → ∃ o d, ops[i]? = some o ∧ o.dst = some d ∧ ∀ j, j < n → j ≠ i → dstAt ops j ≠ some d
  look : ∀ i o, i < n → ops[i]? = some o → ∀ t ∈ o.looksAt ops, ∀ j, j < n → dstAt ops j = some t → direct o j = true
  tail : ∀ i, n ≤ i → i < ops.size → ∀ j, j < i → ((masks ops.toList []).getD i 0).testBit j = true

theorem monoOk_spec {ops : Array Oper} {n : Nat} (h : monoOk ops n = true) : MonoFacts ops n := by
  simp only [monoOk, Bool.and_eq_true] at h
  obtain ⟨⟨⟨hb, hle⟩, hm⟩, ht⟩ := h
  refine ⟨fun i o hi e he hbind => ?_, Nat.le_of_ble_eq_true hle, fun i hi => ?_, fun i o hi ho t htl j hj hd => ?_, fun i h1 h2 j hj => ?_⟩
  · simp only [backward, List.all_eq_true, List.mem_range] at hb
    have := hb i (Array.getElem?_eq_some_iff.1 hi).1
    rw [hi] at this
    simp only [List.all_eq_true] at this
    have := this e (by simpa using he)
    rw [hbind] at this
    simpa [Nat.blt_eq] using this
  · simp only [List.all_eq_true, List.mem_range] at hm
    have h1 := hm i hi
    cases ho : ops[i]? with
    | none => rw [ho] at h1; cases h1
    | some o =>
      rw [ho] at h1
      simp only [Bool.and_eq_true] at h1
      cases hd : o.dst with
      | none => rw [hd] at h1; cases h1.1
      | some d =>
        rw [hd] at h1
        refine ⟨o, d, rfl, hd, fun j hj hne heq => ?_⟩
        have h2 := h1.1
        simp only [List.all_eq_true, List.mem_range] at h2
        have h3 := h2 j hj
        rw [heq] at h3
        have hnb : Nat.beq j i = false := by
          cases hq : Nat.beq j i with
          | false => rfl
          | true => exact absurd (Nat.eq_of_beq_eq_true hq) hne
        rw [hnb] at h3
        simp at h3
  · simp only [List.all_eq_true, List.mem_range] at hm
    have h1 := hm i hi
    rw [ho] at h1
    simp only [Bool.and_eq_true, List.all_eq_true, List.mem_range] at h1
    have h2 := h1.2 t htl j hj
    rw [hd] at h2
    simpa using h2
  · simp only [List.all_eq_true, List.mem_range] at ht
    have h3 := ht i h2
    have hnb : Nat.blt i n = false := by
      cases hq : Nat.blt i n with
      | false => rfl
      | true => have : i < n := by simpa [Nat.blt_eq] using hq
                omega
    rw [hnb, Bool.false_or] at h3
    have h4 := Nat.eq_of_beq_eq_true h3
    rw [h4, Nat.testBit_two_pow_sub_one]
    simpa using hj

section
variable {ops : Array Oper} {n : Nat} (hf : MonoFacts ops n) {s : St} {xs : Nat → V}
include hf

theorem exSt_at {L : Nat → Bool} {j t : Nat} (hj : j < n) (hL : L j = true) (hd : dstAt ops j = some t) : (exSt s ops n xs L).tmps t = xs j := by
  unfold exSt
  simp only
  cases hfind : (List.range n).find? (fun j => L j && (dstAt ops j == some t)) with
  | none =>
    have := List.find?_eq_none.1 hfind j (by simpa using hj)
    simp [hL, hd] at this
  | some k =>
    have h1 := List.find?_some hfind
    have h2 := List.mem_of_find?_eq_some hfind
    simp only [Bool.and_eq_true, beq_iff_eq] at h1
    simp only [List.mem_range] at h2
    obtain ⟨o, d, ho, hod, hu⟩ := hf.dst j hj
    have hdj : d = t := by
      have : dstAt ops j = some d := by simp [dstAt, ho, hod]
      rw [hd] at this; cases this; rfl
    by_cases e : k = j
    · rw [e]
    · exact absurd (hdj ▸ h1.2) (hu k h2 e)

theorem exSt_none {L : Nat → Bool} {t : Nat} (h : ∀ j, j < n → L j = true → dstAt ops j ≠ some t) : (exSt s ops n xs L).tmps t = s.tmps t := by
  unfold exSt
  simp only
  cases hfind : (List.range n).find? (fun j => L j && (dstAt ops j == some t)) with
  | none => rfl
  | some k =>
    have h1 := List.find?_some hfind
    have h2 := List.mem_of_find?_eq_some hfind
    simp only [Bool.and_eq_true, beq_iff_eq] at h1
    simp only [List.mem_range] at h2
    exact absurd h1.2 (h k h2 h1.1)

theorem exSt_put {L L' : Nat → Bool} {i : Nat} {o : Oper} (hi : i < n) (ho : ops[i]? = some o) (hL : ∀ j, L' j = true ↔ (j = i ∨ L j = true)) : (exSt s ops n xs L).put o.dst (xs i) = exSt s ops n xs L' := by
  obtain ⟨o', d, ho', hod, hu⟩ := hf.dst i hi
  rw [ho] at ho'; cases ho'
  have hdi : dstAt ops i = some d := by simp [dstAt, ho, hod]
  rw [hod]
  have htm : ∀ t, ((exSt s ops n xs L).put (some d) (xs i)).tmps t = (exSt s ops n xs L').tmps t := fun t => by
    simp only [St.put]
    cases hb : Nat.beq t d with
    | true =>
      have := Nat.eq_of_beq_eq_true hb
      subst this
      simp only [cond_true]
      exact (exSt_at hf hi ((hL i).2 (.inl rfl)) hdi).symm
    | false =>
      have hne : t ≠ d := beq_ne hb
      simp only [cond_false]
      by_cases hex : ∃ j, j < n ∧ L j = true ∧ dstAt ops j = some t
      · obtain ⟨j, h1, h2, h3⟩ := hex
        rw [exSt_at hf h1 h2 h3, exSt_at hf h1 ((hL j).2 (.inr h2)) h3]
      · rw [exSt_none hf (fun j h1 h2 h3 => hex ⟨j, h1, h2, h3⟩), exSt_none hf (fun j h1 h2 h3 => ?_)]
        rcases (hL j).1 h2 with h | h
        · subst h; rw [hdi] at h3; cases h3; exact hne rfl
        · exact hex ⟨j, h1, h, h3⟩
  unfold exSt St.put at htm ⊢
  simp only at htm ⊢
  congr 1
  funext t
  exact htm t
end

theorem mrun_xs {X : Ctx} {all : Array Oper} : ∀ {l : List Oper} {s s' : St}, MRun X all l s s' → ∃ xs : Nat → V, s' = (List.range l.length).foldl (fun s i => match l[i]? with | some o => s.put o.dst (xs i) | none => s) s ∧
    ∀ i o, l[i]? = some o → dstOk X.N o.dst = true ∧ M1 X all ((List.range i).foldl (fun s i => match l[i]? with | some o => s.put o.dst (xs i) | none => s) s) o (xs i)
  | [], s, s', h => by
    cases h
    exact ⟨fun _ => .d .undef, rfl, fun i o h => by simp at h⟩
  | o :: rest, s, s', h => by
    cases h with
    | cons hd hm hk =>
      rename_i x
      obtain ⟨xs, h1, h2⟩ := mrun_xs hk
      have shift : ∀ (m : Nat) (s0 : St), (List.range (m + 1)).foldl (fun s i => match (o :: rest)[i]? with | some o => s.put o.dst (match i with | 0 => x | i + 1 => xs i) | none => s) s0 = (List.range m).foldl (fun s i => match rest[i]? with | some o => s.put o.dst (xs i) | none => s) (s0.put o.dst x) := fun m s0 => by
        rw [List.range_succ_eq_map, List.foldl_cons, List.foldl_map]
        rfl
      refine ⟨fun i => match i with | 0 => x | i + 1 => xs i, ?_, fun i o' hi => ?_⟩
      · rw [List.length_cons, shift, h1]
      · cases i with
        | zero => simp at hi; subst hi; exact ⟨hd, hm⟩
        | succ i =>
          rw [shift]
          exact h2 i o' (by simpa using hi)

theorem getD_set_self {listed : Array Bool} {i : Nat} (h : i < listed.size) (d : Bool) : (listed.setIfInBounds i true).getD i d = true := by
  simp [h]

theorem countP_lt {p q : Nat → Bool} {i : Nat} (hp : p i = true) (hq : q i = false) (hle : ∀ j, q j = true → p j = true) : ∀ {l : List Nat}, i ∈ l → l.countP q < l.countP p := by
  intro l
  induction l with
  | nil => intro h; cases h
  | cons a l ih =>
    intro h
    have hmono : l.countP q ≤ l.countP p := List.countP_mono_left fun j _ hj => hle j hj
    rcases List.mem_cons.1 h with e | h
    · subst e
      rw [List.countP_cons_of_pos hp, List.countP_cons_of_neg (by simp [hq])]
      omega
    · have := ih h
      simp only [List.countP_cons]
      by_cases hqa : q a = true
      · simp [hqa, hle a hqa]; omega
      · simp [hqa]; omega

/-- The part behind, whose order is forced. -/
theorem wpAny_tail {P : Program} {ops : Array Oper} {n : Nat} (hf : MonoFacts ops n) {Q : Exit → Act → World → Prop} : ∀ (m k fuel : Nat) (listed : Array Bool) (a : Act) (w : World), n ≤ k → k + m = ops.size → m ≤ fuel → listed.size = ops.size → (∀ j, listed.getD j false = true ↔ j < k) →
    wpList P ops Q (ops.toList.drop k) a w → wpAny P .any ops Q fuel listed a w := by
  intro m
  induction m with
  | zero =>
    intro k fuel listed a w hnk hkm hfu hsz hl h
    have hnil : Region.ready .any ops listed = [] := by
      apply List.eq_nil_iff_forall_not_mem.2
      intro j hj
      obtain ⟨h0, o, ho, _⟩ := mem_ready.1 hj
      have hlt := (Array.getElem?_eq_some_iff.1 ho).1
      have := (hl j).2 (by omega)
      simp [show j < listed.size by omega] at h0 this
      rw [h0] at this; cases this
    rw [List.drop_of_length_le (by simp; omega)] at h
    cases fuel with
    | zero => exact ⟨hnil, h⟩
    | succ fuel => exact ⟨fun _ => h, fun i hi => by rw [hnil] at hi; cases hi⟩
  | succ m ih =>
    intro k fuel listed a w hnk hkm hfu hsz hl h
    cases fuel with
    | zero => omega
    | succ fuel =>
      have hk : k < ops.size := by omega
      have hget : ops[k]? = some ops[k] := Array.getElem?_eq_getElem hk
      have hready : k ∈ Region.ready .any ops listed := mem_ready.2 ⟨by
          have : ¬ listed.getD k false = true := fun h => by have := (hl k).1 h; omega
          simp [show k < listed.size by omega] at this ⊢
          exact this, ops[k], hget, fun e he hb => (hl _).2 (hf.back k _ hget e he hb)⟩
      refine ⟨fun hnil => (by rw [hnil] at hready; cases hready), fun i hi => ?_⟩
      obtain ⟨h0, o, ho, hall⟩ := mem_ready.1 hi
      have hilt := (Array.getElem?_eq_some_iff.1 ho).1
      have hki : k ≤ i := by
        rcases Nat.lt_or_ge i k with h' | h'
        · have := (hl i).2 h'
          simp [show i < listed.size by omega] at h0 this
          rw [h0] at this; cases this
        · exact h'
      have hik : i = k := by
        rcases Nat.lt_or_ge k i with h' | h'
        · have hbit := hf.tail i (by omega) hilt k h'
          have := masks_spec (fun j => j < k ∨ j = i) ops.toList [] 0 rfl (fun i h => by simp at h) (fun k' o' h1 h2 e he hb => by
            rcases h2 with h2 | h2
            · left
              have := hf.back k' o' (by simpa using h1) e he hb
              omega
            · left
              simp only [Nat.zero_add] at h2
              subst h2
              have : o' = o := by simp at h1; rw [ho] at h1; cases h1; rfl
              subst this
              exact (hl _).1 (hall e he hb)) (fun k' o' h1 e he hb => by simpa using hf.back k' o' (by simpa using h1) e he hb) i (.inr rfl) k hbit
          rcases this with h | h
          · omega
          · exact h.symm
        · omega
      subst hik
      rw [List.drop_eq_getElem_cons (by simpa using hilt)] at h
      have ho2 : ops.toList[i]'(by simpa using hilt) = o := by
        have : ops[i] = o := by rw [Array.getElem?_eq_getElem hilt] at ho; cases ho; rfl
        simpa using this
      rw [ho2] at h
      have hop : wpOp P ops Q i (wpList P ops Q (ops.toList.drop (i + 1))) a w := by
        unfold wpOp
        simp only [ho]
        exact h
      refine wpOp_mono (fun a' w' h' => ih (i + 1) fuel _ a' w' (by omega) (by omega) (by omega) (by simpa using hsz) (fun j => ?_) h') hop
      by_cases e : j = i
      · subst e
        simp [getD_set_self (show j < listed.size by omega)]
      · rw [getD_set_ne false (Ne.symm e), hl j]
        omega

/-- **Whatever order is drawn**: the part whose operations leave memory as it was (or make data), then the rest. -/
theorem awp_region_mono {X : Ctx} (hm : X.P.follows .mixedOrders = true) {id : Nat} {ops : List Oper} (n : Nat) (hok : monoOk ops.toArray n = true) {Q : Exit → St → Prop} {s s1 : St} (hrun : MRun X ops.toArray (ops.take n) s s1) (htail : awpL X ops.toArray (ops.drop n) Q s1) : awp X (.region id ops.toArray true) Q s := by
  intro io F a w hs
  refine wp_region_any hm ?_
  have hf := monoOk_spec hok
  obtain ⟨xs, hs1, hx⟩ := mrun_xs hrun
  have hle := hf.le
  have hsz : ops.toArray.size = ops.length := rfl
  have getop : ∀ i, i < n → (ops.take n)[i]? = ops.toArray[i]? := fun i hi => by simp [List.getElem?_take, hi]
  -- the states of the walk in the text's order
  have hst : ∀ i, i ≤ n → (List.range i).foldl (fun s i => match (ops.take n)[i]? with | some o => s.put o.dst (xs i) | none => s) s = exSt s ops.toArray n xs (fun j => decide (j < i)) := by
    intro i
    induction i with
    | zero =>
      intro _
      have : exSt s ops.toArray n xs (fun j => decide (j < 0)) = s := by
        unfold exSt
        have : ∀ t, (List.range n).find? (fun j => decide (j < 0) && (dstAt ops.toArray j == some t)) = none := fun t => by
          rw [List.find?_eq_none]; intro j _; simp
        simp only [this]
      rw [this]; rfl
    | succ i ih =>
      intro hi
      rw [List.range_succ, List.foldl_append, ih (by omega)]
      simp only [List.foldl_cons, List.foldl_nil]
      obtain ⟨o, d, ho, _, _⟩ := hf.dst i (by omega)
      rw [getop i (by omega), ho]
      exact exSt_put hf (by omega) ho fun j => by simp; omega
  have hmono : ∀ (L : Nat → Bool) (i : Nat) (o : Oper), i < n → ops.toArray[i]? = some o → (∀ e ∈ o.after, Region.binds .any e = true → L e.on = true) → dstOk X.N o.dst = true ∧ M1 X ops.toArray (exSt s ops.toArray n xs L) o (xs i) := fun L i o hi ho hL => by
    obtain ⟨h1, h2⟩ := hx i o (by rw [getop i hi]; exact ho)
    rw [hst i (by omega)] at h2
    refine ⟨h1, M1.congr (s := exSt s ops.toArray n xs (fun j => decide (j < i))) (s' := exSt s ops.toArray n xs L) rfl (fun t ht => ?_) h2⟩
    by_cases hex : ∃ j, j < n ∧ dstAt ops.toArray j = some t
    · obtain ⟨j, hj, hd⟩ := hex
      obtain ⟨e, he, hb, hej⟩ := direct_spec (hf.look i o hi ho t ht j hj hd)
      have hlt := hf.back i o ho e he hb
      rw [exSt_at hf hj (by have := hL e he hb; rwa [hej] at this) hd, exSt_at hf hj (by simp; omega) hd]
    · rw [exSt_none hf fun j hj _ hd => hex ⟨j, hj, hd⟩, exSt_none hf fun j hj _ hd => hex ⟨j, hj, hd⟩]
  have key : ∀ (u fuel : Nat) (listed : Array Bool) (F : Nat → Prop) (a : Act) (w : World), (List.range n).countP (fun j => !listed.getD j false) ≤ u → u + (ops.toArray.size - n) ≤ fuel → listed.size = ops.toArray.size →
      (∀ j, listed.getD j false = true → j < n) → (∀ i o, ops.toArray[i]? = some o → listed.getD i false = true → ∀ e ∈ o.after, Region.binds .any e = true → listed.getD e.on false = true) →
      SR X io F (exSt s ops.toArray n xs (fun j => listed.getD j false)) a w → wpAny X.P .any ops.toArray (lift X Q) fuel listed a w := by
    intro u
    induction u with
    | zero =>
      intro fuel listed F a w hu hfu hsize htl hcl hsr
      have hall : ∀ j, j < n → listed.getD j false = true := fun j hj => by
        have := List.countP_eq_zero.1 (Nat.le_zero.1 hu) j (by simpa using hj)
        simpa using this
      refine wpAny_tail hf (ops.toArray.size - n) n fuel listed a w (Nat.le_refl _) (by omega) (by omega) hsize (fun j => ⟨htl j, hall j⟩) ?_
      have heq : exSt s ops.toArray n xs (fun j => listed.getD j false) = s1 := by
        rw [hs1]
        have hl : (ops.take n).length = n := by simp; omega
        rw [hl, hst n (Nat.le_refl _)]
        have : (fun j => listed.getD j false) = fun j => decide (j < n) := by
          funext j
          by_cases hj : j < n
          · simp [hall j hj, hj]
          · cases hb : listed.getD j false with
            | false => simp [hj]
            | true => exact absurd (htl j hb) hj
        rw [this]
      rw [heq] at hsr
      exact htail _ _ _ _ hsr
    | succ u ih =>
      intro fuel listed F a w hu hfu hsize htl hcl hsr
      by_cases hall : ∀ j, j < n → listed.getD j false = true
      · -- all are listed: the case above
        have h0 : (List.range n).countP (fun j => !listed.getD j false) = 0 := List.countP_eq_zero.2 fun j hj => by simp only [List.mem_range] at hj; simp [hall j hj]
        exact ih fuel listed F a w (by omega) (by omega) hsize htl hcl hsr
      · have hex : ∃ j, j < n ∧ listed.getD j false ≠ true ∧ ∀ k, k < j → listed.getD k false = true := by
          have : ∃ j, j < n ∧ listed.getD j false ≠ true := by
            rcases Classical.em (∃ j, j < n ∧ listed.getD j false ≠ true) with h | h
            · exact h
            · exact absurd (fun j hj => Classical.byContradiction fun hne => h ⟨j, hj, hne⟩) hall
          obtain ⟨j, hj⟩ := this
          induction j using Nat.strongRecOn with
          | _ j ihj =>
            by_cases hk : ∃ k, k < j ∧ listed.getD k false ≠ true
            · obtain ⟨k, hk1, hk2⟩ := hk
              exact ihj k hk1 ⟨by omega, hk2⟩
            · exact ⟨j, hj.1, hj.2, fun k hk1 => Classical.byContradiction fun h => hk ⟨k, hk1, h⟩⟩
        obtain ⟨j0, hj0, hnl, hless⟩ := hex
        cases fuel with
        | zero => omega
        | succ fuel =>
          obtain ⟨o0, d0, ho0, _, _⟩ := hf.dst j0 hj0
          have hready0 : j0 ∈ Region.ready .any ops.toArray listed := mem_ready.2 ⟨by
              simp [show j0 < listed.size by omega] at hnl ⊢
              exact hnl, o0, ho0, fun e he hb => hless _ (hf.back j0 o0 ho0 e he hb)⟩
          refine ⟨fun hnil => (by rw [hnil] at hready0; cases hready0), fun i hi => ?_⟩
          obtain ⟨h0, o, ho, hpre⟩ := mem_ready.1 hi
          have hilt := (Array.getElem?_eq_some_iff.1 ho).1
          have hin : i < n := by
            rcases Nat.lt_or_ge i n with h' | h'
            · exact h'
            · have hbit := hf.tail i h' hilt j0 (by omega)
              have := masks_spec (fun j => listed.getD j false = true ∨ j = i) ops.toArray.toList [] 0 rfl (fun i h => by simp at h) (fun k' o' h1 h2 e he hb => by
                rcases h2 with h2 | h2
                · left; exact hcl k' o' (by simpa using h1) (by simpa using h2) e he hb
                · left
                  simp only [Nat.zero_add] at h2
                  subst h2
                  have : o' = o := by
                    have h1' : ops.toArray[k']? = some o' := by simpa using h1
                    rw [ho] at h1'; cases h1'; rfl
                  subst this
                  exact hpre e he hb) (fun k' o' h1 e he hb => by simpa using hf.back k' o' (by simpa using h1) e he hb) i (.inr rfl) j0 hbit
              rcases this with h | h
              · exact absurd h hnl
              · omega
          obtain ⟨hd, hmo⟩ := hmono (fun j => listed.getD j false) i o hin ho hpre
          have hunl : listed.getD i false = false := by
            simp [show i < listed.size by omega] at h0 ⊢
            exact h0
          have hs2 := m1_sound hsr hd hmo (Q := lift X Q) (K := wpAny X.P .any ops.toArray (lift X Q) fuel (listed.setIfInBounds i true)) fun F' a' w' hs' => by
            have hput : (exSt s ops.toArray n xs (fun j => listed.getD j false)).put o.dst (xs i) = exSt s ops.toArray n xs (fun j => (listed.setIfInBounds i true).getD j false) := exSt_put hf hin ho fun j => by
              by_cases e : j = i
              · subst e; simp [getD_set_self (show j < listed.size by omega)]
              · rw [getD_set_ne false (Ne.symm e)]; simp [e]
            rw [hput] at hs'
            refine ih fuel _ F' a' w' ?_ (by omega) (by simpa using hsize) (fun j hj => ?_) (fun k ok hk hlk e he hb => ?_) hs'
            · have := countP_lt (p := fun j => !listed.getD j false) (q := fun j => !(listed.setIfInBounds i true).getD j false) (i := i) (by simp [hunl]) (by simp [getD_set_self (show i < listed.size by omega)]) (fun j hj => by
                by_cases e : j = i
                · subst e; simp [hunl]
                · rw [getD_set_ne false (Ne.symm e)] at hj; exact hj) (l := List.range n) (by simpa using hin)
              omega
            · by_cases e : j = i
              · rw [e]; exact hin
              · rw [getD_set_ne false (Ne.symm e)] at hj; exact htl j hj
            · by_cases e' : k = i
              · subst e'
                rw [ho] at hk; cases hk
                exact getD_set_true (hpre e he hb)
              · rw [getD_set_ne false (Ne.symm e')] at hlk
                exact getD_set_true (hcl k ok hk hlk e he hb)
          unfold wpOp
          simp only [ho]
          exact hs2
  have hdr : SR X io F (exSt s ops.toArray n xs (fun j => (Array.replicate ops.toArray.size false).getD j false)) a w.drew := by
    have : exSt s ops.toArray n xs (fun j => (Array.replicate ops.toArray.size false).getD j false) = s := by
      unfold exSt
      have : ∀ t, (List.range n).find? (fun j => (Array.replicate ops.toArray.size false).getD j false && (dstAt ops.toArray j == some t)) = none := fun t => by
        rw [List.find?_eq_none]; intro j _
        simp [Array.getD_eq_getD_getElem?, Array.getElem?_replicate]
        intro h; split at h <;> simp at h
      simp only [this]
    rw [this]; exact hs.drew
  refine key n ops.toArray.size _ F a w.drew ?_ (by omega) (by simp) (fun j hj => ?_) (fun i o ho hl => ?_) hdr
  · exact Nat.le_trans List.countP_le_length (by simp)
  · simp [Array.getD_eq_getD_getElem?, Array.getElem?_replicate] at hj
    split at hj <;> simp at hj
  · simp [Array.getD_eq_getD_getElem?, Array.getElem?_replicate] at hl
    split at hl <;> simp at hl
end Go.Vw
