/-
  Contracts of functions of the program, and the layer that they are walked with: FmB FmC FmD FmE FmF FmP FmG FmH FmI FmJ VW VX Limbs LimbsB LimbsC Ints Rats RatsQ RatsC RatsD RatsM Nats NatsB NatsC NatsD. Conditions: as each says.
-/
import Derived.Deep.Slices
import Derived.Carry
import Derived.OpenShut
import Derived.WalkKit
import Derived.ProofKit
import Derived.Deep.DeepHandedRow
import Derived.Lib.LaidTab
import Derived.Test.YtjooknpgcjicbaaA05
set_option linter.unnecessarySimpa false
/-
  What is read from a place on: the relation, where it leads, and that it always leads somewhere. Conditions: none.
-/
set_option linter.unusedVariables false
set_option linter.unusedSimpArgs false
namespace Go.Vw

abbrev Nd : Type := Int × List UInt8 × Int
abbrev PErr : Type := Nat × Int
abbrev Pos (α : Type) : Type := Except PErr (α × Nat)
def pwB : List UInt8 := [112, 111, 119, 101, 114]
def isName (s : List UInt8) : Bool := 1 ≤ s.length && s.length ≤ 32 && isLet (s.getD 0 0) && !(s == pwB) && s.all isInn

def mustP (t : List UInt8) (c : UInt8) (i : Nat) : Except PErr Nat := if word t i = [c] then .ok (nxt t i) else .error (i, 3)
def nameP (t : List UInt8) (i : Nat) : Pos (List UInt8) := if isName (word t i) then .ok (word t i, nxt t i) else .error (i, 3)
def digP (t : List UInt8) (i : Nat) : Option Nat := if (word t i).length = 1 ∧ isDig ((word t i).getD 0 0) = true then some (((word t i).getD 0 0).toNat - 48) else none
def numP (t : List UInt8) (lo hi : Nat) (i : Nat) : Pos Nat := match digP t i with
  | none => .error (i, 3)
  | some n => if lo ≤ n ∧ n ≤ hi then .ok (n, nxt t i) else .error (i, 1)
def powP (t : List UInt8) (i : Nat) : Pos (List Nd) :=
  match mustP t 40 i with
  | .error x => .error x
  | .ok i1 => match nameP t i1 with
    | .error x => .error x
    | .ok (s, i2) => match mustP t 44 i2 with
      | .error x => .error x
      | .ok i3 => match numP t 2 8 i3 with
        | .error x => .error x
        | .ok (n, i4) => match mustP t 41 i4 with
          | .error x => .error x
          | .ok i5 => .ok ([((2 : Int), s, (n : Int))], i5)
def varP (t : List UInt8) (i : Nat) : Pos (List Nd) := match nameP t i with
  | .error x => .error x
  | .ok (s, j) => .ok ([((1 : Int), s, (0 : Int))], j)
def atomP (t : List UInt8) (i : Nat) : Pos (List Nd) :=
  if word t i = [48] then .ok ([((4 : Int), [], (0 : Int))], nxt t i)
  else if word t i = [49] then .ok ([((3 : Int), [], (0 : Int))], nxt t i)
  else if word t i = pwB then powP t (nxt t i)
  else varP t i
def opOf (r : Nat) (w : List UInt8) : Option Int :=
  if r = 0 then (if w = [43] then some 5 else if w = [45] then some 6 else none)
  else if r = 1 then (if w = [42] then some 8 else if w = [47] then some 9 else none)
  else (if w = [58] then some 7 else none)

inductive Kd where
  | lev (r : Nat)
  | bin (r : Nat) (e : List Nd)
  | pri
  | rai (e : List Nd)

inductive Rs (t : List UInt8) : Kd → Nat → Pos (List Nd) → Prop where
  | levE {r i x} (h : r < 3) (h1 : Rs t (.lev (r + 1)) i (.error x)) : Rs t (.lev r) i (.error x)
  | levO {r i e j o} (h : r < 3) (h1 : Rs t (.lev (r + 1)) i (.ok (e, j))) (h2 : Rs t (.bin r e) j o) : Rs t (.lev r) i o
  | raiE {i x} (h1 : Rs t .pri i (.error x)) : Rs t (.lev 3) i (.error x)
  | raiO {i e j o} (h1 : Rs t .pri i (.ok (e, j))) (h2 : Rs t (.rai e) j o) : Rs t (.lev 3) i o
  | bin0 {r e i} (h : opOf r (word t i) = none) : Rs t (.bin r e) i (.ok (e, i))
  | binE {r e i op x} (h : opOf r (word t i) = some op) (h1 : Rs t (.lev (r + 1)) (nxt t i) (.error x)) : Rs t (.bin r e) i (.error x)
  | binO {r e i op e' j o} (h : opOf r (word t i) = some op) (h1 : Rs t (.lev (r + 1)) (nxt t i) (.ok (e', j))) (h2 : Rs t (.bin r ((op, [], (0 : Int)) :: (e ++ e'))) j o) : Rs t (.bin r e) i o
  | rai0 {e i} (h : word t i ≠ [94]) : Rs t (.rai e) i (.ok (e, i))
  | raiX {e i x} (h : word t i = [94]) (h1 : numP t 1 6 (nxt t i) = .error x) : Rs t (.rai e) i (.error x)
  | raiN {e i n j o} (h : word t i = [94]) (h1 : numP t 1 6 (nxt t i) = .ok (n, j)) (h2 : Rs t (.rai (((10 : Int), [], (n : Int)) :: e)) j o) : Rs t (.rai e) i o
  | atom {i} (h : word t i ≠ [40]) : Rs t .pri i (atomP t i)
  | brE {i x} (h : word t i = [40]) (h1 : Rs t (.lev 0) (nxt t i) (.error x)) : Rs t .pri i (.error x)
  | brX {i e j x} (h : word t i = [40]) (h1 : Rs t (.lev 0) (nxt t i) (.ok (e, j))) (h2 : mustP t 41 j = .error x) : Rs t .pri i (.error x)
  | brO {i e j k} (h : word t i = [40]) (h1 : Rs t (.lev 0) (nxt t i) (.ok (e, j))) (h2 : mustP t 41 j = .ok k) : Rs t .pri i (.ok (e, k))

structure At (t : List UInt8) (i : Nat) : Prop where
  le : i ≤ t.length
  skp : skp t i = i
theorem at_nxt (t : List UInt8) (i : Nat) : At t (nxt t i) := ⟨nxt_le t i, skp_nxt t i⟩
theorem word_nil {t : List UInt8} {i : Nat} (h : i ≤ t.length) : word t i = [] ↔ i = t.length := by
  constructor
  · intro e
    by_cases hi : i < t.length
    · have h1 := wend_gt hi
      have h2 := wend_le t i
      have := congrArg List.length e
      unfold word at this
      simp at this; omega
    · omega
  · intro e; subst e; unfold word; simp
theorem lt_of_word {t : List UInt8} {i : Nat} (h : word t i ≠ []) : i < t.length := by
  by_cases e : i < t.length
  · exact e
  · exfalso; apply h; unfold word; rw [List.drop_eq_nil_of_le (by omega)]; simp

theorem mustP_ok {t : List UInt8} {c : UInt8} {i j : Nat} (h : mustP t c i = .ok j) : At t j ∧ i < j ∧ j = nxt t i ∧ word t i = [c] := by
  unfold mustP at h
  split at h
  · rename_i hw; cases h; exact ⟨at_nxt t i, nxt_gt (lt_of_word (by rw [hw]; simp)), rfl, hw⟩
  · cases h
theorem mustP_er {t : List UInt8} {c : UInt8} {i : Nat} {x : PErr} (h : mustP t c i = .error x) : x = (i, 3) ∧ word t i ≠ [c] := by
  unfold mustP at h
  split at h
  · cases h
  · rename_i hw; cases h; exact ⟨rfl, hw⟩
theorem isName_ne {s : List UInt8} (h : isName s = true) : s ≠ [] := fun e => by subst e; revert h; decide
theorem nameP_ok {t : List UInt8} {i j : Nat} {s : List UInt8} (h : nameP t i = .ok (s, j)) : At t j ∧ i < j ∧ j = nxt t i ∧ s = word t i ∧ isName s = true := by
  unfold nameP at h
  split at h
  · rename_i hw; cases h; exact ⟨at_nxt t i, nxt_gt (lt_of_word (isName_ne hw)), rfl, rfl, hw⟩
  · cases h
theorem nameP_er {t : List UInt8} {i : Nat} {x : PErr} (h : nameP t i = .error x) : x = (i, 3) ∧ isName (word t i) = false := by
  unfold nameP at h
  split at h
  · cases h
  · rename_i hw; cases h; exact ⟨rfl, by simpa using hw⟩
theorem digP_lt {t : List UInt8} {i n : Nat} (h : digP t i = some n) : i < t.length ∧ n ≤ 9 := by
  unfold digP at h
  split at h
  · rename_i hw
    cases h
    refine ⟨lt_of_word fun e => by rw [e] at hw; simp at hw, ?_⟩
    have := hw.2
    simp only [isDig, Bool.and_eq_true, decide_eq_true_eq] at this
    have h2 := UInt8.le_iff_toNat_le.1 this.2
    simp at h2 ⊢; omega
  · cases h
theorem numP_ok {t : List UInt8} {lo hi i n j : Nat} (h : numP t lo hi i = .ok (n, j)) : At t j ∧ i < j ∧ j = nxt t i ∧ lo ≤ n ∧ n ≤ hi ∧ digP t i = some n := by
  unfold numP at h
  split at h
  · cases h
  · rename_i m hm
    split at h
    · cases h; exact ⟨at_nxt t i, nxt_gt (digP_lt hm).1, rfl, by omega, by omega, hm⟩
    · cases h
theorem numP_er {t : List UInt8} {lo hi i : Nat} {x : PErr} (h : numP t lo hi i = .error x) : x = (i, 3) ∨ x = (i, 1) := by
  unfold numP at h
  split at h
  · cases h; exact .inl rfl
  · split at h
    · cases h
    · cases h; exact .inr rfl

def ErrIn (t : List UInt8) (i : Nat) (x : PErr) : Prop := i ≤ x.1 ∧ x.1 ≤ t.length ∧ skp t x.1 = x.1 ∧ (x.2 = 3 ∨ x.2 = 1)
theorem ErrIn.mono {t : List UInt8} {i j : Nat} {x : PErr} (h : ErrIn t j x) (hij : i ≤ j) : ErrIn t i x := ⟨Nat.le_trans hij h.1, h.2⟩
theorem At.err {t : List UInt8} {i : Nat} (h : At t i) {n : Int} (hn : n = 3 ∨ n = 1) : ErrIn t i (i, n) := ⟨Nat.le_refl _, h.le, h.skp, hn⟩

theorem powP_ok {t : List UInt8} {i j : Nat} {e : List Nd} (h : powP t i = .ok (e, j)) : At t j ∧ i < j ∧ e.length = 1 ∧ ∃ s, ∃ n : Nat, e = [((2 : Int), s, (n : Int))] ∧ isName s = true ∧ 2 ≤ n ∧ n ≤ 8 := by
  unfold powP at h
  repeat' split at h
  all_goals first | (cases h; done) | skip
  rename_i _ i1 h1 _ s i2 h2 _ i3 h3 _ n i4 h4 _ i5 h5
  cases h
  have a1 := mustP_ok h1
  have a2 := nameP_ok h2
  have a3 := mustP_ok h3
  have a4 := numP_ok h4
  have a5 := mustP_ok h5
  exact ⟨a5.1, by omega, rfl, s, n, rfl, a2.2.2.2.2, a4.2.2.2.1, a4.2.2.2.2.1⟩
theorem powP_er {t : List UInt8} {i : Nat} {x : PErr} (hi : At t i) (h : powP t i = .error x) : ErrIn t i x := by
  unfold powP at h
  split at h
  · rename_i h1; cases h; rw [(mustP_er h1).1]; exact hi.err (.inl rfl)
  · rename_i i1 h1
    have a1 := mustP_ok h1
    split at h
    · rename_i h2; cases h; rw [(nameP_er h2).1]; exact (a1.1.err (.inl rfl)).mono (by omega)
    · rename_i s i2 h2
      have a2 := nameP_ok h2
      split at h
      · rename_i h3; cases h; rw [(mustP_er h3).1]; exact (a2.1.err (.inl rfl)).mono (by omega)
      · rename_i i3 h3
        have a3 := mustP_ok h3
        split at h
        · rename_i h4; cases h
          rcases numP_er h4 with e | e <;> rw [e] <;> exact (a3.1.err (by simp)).mono (by omega)
        · rename_i n i4 h4
          have a4 := numP_ok h4
          split at h
          · rename_i h5; cases h; rw [(mustP_er h5).1]; exact (a4.1.err (.inl rfl)).mono (by omega)
          · cases h
theorem atomP_ok {t : List UInt8} {i j : Nat} {e : List Nd} (h : atomP t i = .ok (e, j)) : At t j ∧ i < j ∧ e.length = 1 := by
  unfold atomP at h
  split at h
  · rename_i hw; cases h; exact ⟨at_nxt t i, nxt_gt (lt_of_word (by rw [hw]; simp)), rfl⟩
  · split at h
    · rename_i hw; cases h; exact ⟨at_nxt t i, nxt_gt (lt_of_word (by rw [hw]; simp)), rfl⟩
    · split at h
      · rename_i hw
        have := powP_ok h
        have h2 := nxt_gt (lt_of_word (t := t) (i := i) (by rw [hw]; decide))
        exact ⟨this.1, by omega, this.2.2.1⟩
      · unfold varP at h
        split at h
        · cases h
        · rename_i s k hk; cases h
          have := nameP_ok hk
          exact ⟨this.1, this.2.1, rfl⟩
theorem atomP_er {t : List UInt8} {i : Nat} {x : PErr} (hi : At t i) (h : atomP t i = .error x) : ErrIn t i x := by
  unfold atomP at h
  split at h
  · cases h
  · split at h
    · cases h
    · split at h
      · exact (powP_er (at_nxt t i) h).mono (nxt_ge hi.le)
      · unfold varP at h
        split at h
        · rename_i hk; cases h; rw [(nameP_er hk).1]; exact hi.err (.inl rfl)
        · cases h

def Kd.pre : Kd → Nat
  | .bin _ e => e.length
  | .rai e => e.length
  | _ => 0
def Kd.cons : Kd → Bool
  | .lev _ => true
  | .pri => true
  | _ => false
theorem opOf_nil (r : Nat) : opOf r [] = none := by
  unfold opOf
  split
  · rfl
  · split <;> rfl
theorem opOf_lt {t : List UInt8} {r i : Nat} {op : Int} (h : opOf r (word t i) = some op) : i < t.length := lt_of_word fun e => by
  rw [e, opOf_nil] at h; cases h

def Goes (t : List UInt8) (k : Kd) (i : Nat) : Pos (List Nd) → Prop
  | .error x => ErrIn t i x
  | .ok (e, j) => At t j ∧ i ≤ j ∧ e.length ≤ k.pre + (j - i) ∧ k.pre ≤ e.length ∧ (k.cons = true → i < j ∧ 1 ≤ e.length)
theorem Rs.goes {t : List UInt8} {k : Kd} {i : Nat} {o : Pos (List Nd)} (h : Rs t k i o) : At t i → Goes t k i o := by
  induction h with
  | levE h h1 ih => exact fun hi => ih hi
  | raiE h1 ih => exact fun hi => ih hi
  | @levO r i e j o h h1 h2 ih1 ih2 =>
    intro hi
    obtain ⟨a1, a2, a3, a4, a5⟩ := ih1 hi
    have b := ih2 a1
    cases o with
    | error x => exact b.mono a2
    | ok p =>
      obtain ⟨e2, k⟩ := p
      obtain ⟨b1, b2, b3, b4, b5⟩ := b
      have a5 := a5 rfl
      simp only [Kd.pre] at a3 b3 b4
      exact ⟨b1, by omega, by simp only [Kd.pre]; omega, by simp only [Kd.pre]; omega, fun _ => by omega⟩
  | @raiO i e j o h1 h2 ih1 ih2 =>
    intro hi
    obtain ⟨a1, a2, a3, a4, a5⟩ := ih1 hi
    have b := ih2 a1
    cases o with
    | error x => exact b.mono a2
    | ok p =>
      obtain ⟨e2, k⟩ := p
      obtain ⟨b1, b2, b3, b4, b5⟩ := b
      have a5 := a5 rfl
      simp only [Kd.pre] at a3 b3 b4
      exact ⟨b1, by omega, by simp only [Kd.pre]; omega, by simp only [Kd.pre]; omega, fun _ => by omega⟩
  | bin0 h => exact fun hi => ⟨hi, Nat.le_refl _, by simp [Kd.pre], by simp [Kd.pre], fun h => by cases h⟩
  | rai0 h => exact fun hi => ⟨hi, Nat.le_refl _, by simp [Kd.pre], by simp [Kd.pre], fun h => by cases h⟩
  | @binE r e i op x h h1 ih =>
    exact fun hi => (ih (at_nxt t i)).mono (nxt_ge hi.le)
  | @binO r e i op e' j o h h1 h2 ih1 ih2 =>
    intro hi
    have h0 := nxt_gt (opOf_lt h)
    obtain ⟨a1, a2, a3, a4, a5⟩ := ih1 (at_nxt t i)
    have b := ih2 a1
    cases o with
    | error x => exact b.mono (by omega)
    | ok p =>
      obtain ⟨e2, k⟩ := p
      obtain ⟨b1, b2, b3, b4, b5⟩ := b
      simp only [Kd.pre, List.length_cons, List.length_append] at a3 b3 b4
      exact ⟨b1, by omega, by simp only [Kd.pre]; omega, by simp only [Kd.pre]; omega, fun h => by cases h⟩
  | @raiX e i x h h1 =>
    intro hi
    rcases numP_er h1 with q | q <;> subst q <;> exact ((at_nxt t i).err (by simp)).mono (nxt_ge hi.le)
  | @raiN e i n j o h h1 h2 ih =>
    intro hi
    have h0 := nxt_gt (lt_of_word (t := t) (i := i) (by rw [h]; simp))
    have a := numP_ok h1
    have b := ih a.1
    cases o with
    | error x => exact b.mono (by omega)
    | ok p =>
      obtain ⟨e2, k⟩ := p
      obtain ⟨b1, b2, b3, b4, b5⟩ := b
      simp only [Kd.pre, List.length_cons] at b3 b4
      exact ⟨b1, by omega, by simp only [Kd.pre]; omega, by simp only [Kd.pre]; omega, fun h => by cases h⟩
  | @atom i h =>
    intro hi
    cases ha : atomP t i with
    | error x => exact atomP_er hi ha
    | ok p =>
      obtain ⟨e, j⟩ := p
      have := atomP_ok ha
      exact ⟨this.1, by omega, by simp only [Kd.pre]; omega, by simp [Kd.pre], fun _ => by omega⟩
  | @brE i x h h1 ih => exact fun hi => (ih (at_nxt t i)).mono (nxt_ge hi.le)
  | @brX i e j x h h1 h2 ih =>
    intro hi
    obtain ⟨a1, a2, a3, a4, a5⟩ := ih (at_nxt t i)
    have := (mustP_er h2).1
    subst this
    exact (a1.err (.inl rfl)).mono (Nat.le_trans (nxt_ge hi.le) a2)
  | @brO i e j k h h1 h2 ih =>
    intro hi
    obtain ⟨a1, a2, a3, a4, a5⟩ := ih (at_nxt t i)
    have b := mustP_ok h2
    have c := nxt_ge (t := t) hi.le
    have a5 := a5 rfl
    simp only [Kd.pre] at a3
    exact ⟨b.1, by omega, by simp only [Kd.pre]; omega, by simp only [Kd.pre]; omega, fun _ => by omega⟩

def Kd.rank : Kd → Nat
  | .lev r => 5 - min r 4
  | .bin _ _ => 0
  | .pri => 1
  | .rai _ => 0
def Kd.ok : Kd → Prop
  | .lev r => r ≤ 3
  | .bin r _ => r < 3
  | _ => True
theorem Rs.ex (t : List UInt8) : ∀ (n : Nat) (k : Kd) (i : Nat), 6 * (t.length - i) + k.rank ≤ n → k.ok → At t i → ∃ o, Rs t k i o := by
  intro n
  induction n using Nat.strongRecOn with
  | _ n ih =>
    intro k i hn hk hi
    have hb : ∀ (r : Nat) (e : List Nd) (m : Nat), m + 1 ≤ n → 6 * (t.length - i) ≤ m → True := fun _ _ _ _ _ => trivial
    cases k with
    | lev r =>
      simp only [Kd.ok] at hk
      by_cases h3 : r = 3
      · subst h3
        simp only [Kd.rank] at hn
        obtain ⟨o, ho⟩ := ih (n - 1) (by omega) .pri i (by simp only [Kd.rank]; omega) trivial hi
        cases o with
        | error x => exact ⟨_, .raiE ho⟩
        | ok p =>
          obtain ⟨e, j⟩ := p
          obtain ⟨a1, a2, _, _, a5⟩ := ho.goes hi
          have a5 := a5 rfl
          have := hi.le
          obtain ⟨o2, ho2⟩ := ih (n - 1) (by omega) (.rai e) j (by simp only [Kd.rank]; have := a1.le; omega) trivial a1
          exact ⟨_, .raiO ho ho2⟩
      · simp only [Kd.rank] at hn
        obtain ⟨o, ho⟩ := ih (n - 1) (by omega) (.lev (r + 1)) i (by simp only [Kd.rank]; omega) (by simp only [Kd.ok]; omega) hi
        cases o with
        | error x => exact ⟨_, .levE (by omega) ho⟩
        | ok p =>
          obtain ⟨e, j⟩ := p
          obtain ⟨a1, a2, _, _, a5⟩ := ho.goes hi
          have a5 := a5 rfl
          have := hi.le
          obtain ⟨o2, ho2⟩ := ih (n - 1) (by omega) (.bin r e) j (by simp only [Kd.rank]; have := a1.le; omega) (by simp only [Kd.ok]; omega) a1
          exact ⟨_, .levO (by omega) ho ho2⟩
    | bin r e =>
      simp only [Kd.ok] at hk
      cases hop : opOf r (word t i) with
      | none => exact ⟨_, .bin0 hop⟩
      | some op =>
        have hlt := opOf_lt hop
        have h0 := nxt_gt hlt
        have h1 := nxt_le t i
        simp only [Kd.rank] at hn
        obtain ⟨o, ho⟩ := ih (n - 1) (by omega) (.lev (r + 1)) (nxt t i) (by simp only [Kd.rank]; omega) (by simp only [Kd.ok]; omega) (at_nxt t i)
        cases o with
        | error x => exact ⟨_, .binE hop ho⟩
        | ok p =>
          obtain ⟨e2, j⟩ := p
          obtain ⟨a1, a2, _, _, a5⟩ := ho.goes (at_nxt t i)
          obtain ⟨o2, ho2⟩ := ih (n - 1) (by omega) (.bin r ((op, [], 0) :: (e ++ e2))) j (by simp only [Kd.rank]; have := a1.le; omega) hk a1
          exact ⟨_, .binO hop ho ho2⟩
    | pri =>
      simp only [Kd.rank] at hn
      by_cases hw : word t i = [40]
      · have hlt := lt_of_word (t := t) (i := i) (by rw [hw]; simp)
        have h0 := nxt_gt hlt
        have h1 := nxt_le t i
        obtain ⟨o, ho⟩ := ih (n - 1) (by omega) (.lev 0) (nxt t i) (by simp only [Kd.rank]; omega) (by simp only [Kd.ok]; omega) (at_nxt t i)
        cases o with
        | error x => exact ⟨_, .brE hw ho⟩
        | ok p =>
          obtain ⟨e, j⟩ := p
          cases hm : mustP t 41 j with
          | error x => exact ⟨_, .brX hw ho hm⟩
          | ok k => exact ⟨_, .brO hw ho hm⟩
      · exact ⟨_, .atom hw⟩
    | rai e =>
      simp only [Kd.rank] at hn
      by_cases hw : word t i = [94]
      · have hlt := lt_of_word (t := t) (i := i) (by rw [hw]; simp)
        have h0 := nxt_gt hlt
        cases hm : numP t 1 6 (nxt t i) with
        | error x => exact ⟨_, .raiX hw hm⟩
        | ok p =>
          obtain ⟨m, j⟩ := p
          have a := numP_ok hm
          have a1 := a.1.le
          obtain ⟨o2, ho2⟩ := ih (n - 1) (by omega) (.rai ((10, [], (m : Int)) :: e)) j (by simp only [Kd.rank]; omega) trivial a.1
          exact ⟨_, .raiN hw hm ho2⟩
      · exact ⟨_, .rai0 hw⟩
theorem Rs.all {t : List UInt8} {k : Kd} {i : Nat} (hk : k.ok) (hi : At t i) : ∃ o, Rs t k i o := Rs.ex t _ k i (Nat.le_refl _) hk hi

end Go.Vw

/-
  Formulas as trees, how they are written, and that what is written is read back. Conditions: as each says.
-/
namespace Go.Vw

inductive Ft where
  | leaf (n : Nd)
  | un (k : Int) (a : Ft)
  | bi (op : Int) (a b : Ft)
def Ft.flat : Ft → List Nd
  | .leaf n => [n]
  | .un k a => ((10 : Int), [], k) :: a.flat
  | .bi op a b => (op, [], (0 : Int)) :: (a.flat ++ b.flat)
def leafOk (n : Nd) : Prop := (n.1 = 1 ∧ isName n.2.1 = true ∧ n.2.2 = 0) ∨ (n.1 = 2 ∧ isName n.2.1 = true ∧ 2 ≤ n.2.2 ∧ n.2.2 ≤ 8) ∨ ((n.1 = 3 ∨ n.1 = 4) ∧ n.2.1 = [] ∧ n.2.2 = 0)
def Ft.ok : Ft → Prop
  | .leaf n => leafOk n
  | .un k a => 1 ≤ k ∧ k ≤ 6 ∧ a.ok
  | .bi op a b => 5 ≤ op ∧ op ≤ 9 ∧ a.ok ∧ b.ok
def Ft.op : Ft → Int
  | .leaf n => n.1
  | .un _ _ => 10
  | .bi op _ _ => op
def rk (op : Int) : Nat := if op = 5 ∨ op = 6 then 0 else if op = 8 ∨ op = 9 then 1 else if op = 7 then 2 else if op = 10 then 3 else 4
def dgB (k : Int) : UInt8 := UInt8.ofNat (48 + k.toNat)
def sgC (op : Int) : UInt8 := if op = 5 then 43 else if op = 6 then 45 else if op = 8 then 42 else if op = 9 then 47 else 58
def sgB (op : Int) : List UInt8 := if op = 7 then [58] else [32, sgC op, 32]
def leafB (n : Nd) : List UInt8 := if n.1 = 1 then n.2.1 else if n.1 = 2 then pwB ++ (40 :: (n.2.1 ++ [44, 32, dgB n.2.2, 41])) else if n.1 = 3 then [49] else [48]
def brB (b : Bool) (s : List UInt8) : List UInt8 := if b then 40 :: (s ++ [41]) else s
def Ft.pr : Ft → List UInt8
  | .leaf n => leafB n
  | .un k a => brB (decide (rk a.op < 3)) a.pr ++ [94, dgB k]
  | .bi op a b => brB (decide (rk a.op < rk op)) a.pr ++ (sgB op ++ brB (decide (rk b.op < rk op + 1)) b.pr)
def Ft.prB (r : Nat) (T : Ft) : List UInt8 := brB (decide (rk T.op < r)) T.pr

/-! ## Words of a written text -/

def Cl (l : List UInt8) : Prop := ∀ c r, l = c :: r → isInn c = false
theorem cl_nil : Cl [] := fun _ _ h => by cases h
theorem cl_cons {c : UInt8} {r : List UInt8} (h : isInn c = false) : Cl (c :: r) := fun _ _ e => by cases e; exact h
theorem getD_drop {t : List UInt8} {i : Nat} {c : UInt8} {r : List UInt8} (h : t.drop i = c :: r) : t.getD i 0 = c ∧ i < t.length ∧ t.drop (i + 1) = r := by
  have hl : i < t.length := by
    have := congrArg List.length h
    simp at this; omega
  refine ⟨?_, hl, ?_⟩
  · have : t[i]? = some c := by
      have := congrArg List.head? h
      simpa using this
    simp [List.getD_eq_getElem?_getD, this]
  · have := congrArg List.tail h
    simpa using this
theorem drop_app {t w r : List UInt8} {i : Nat} (h : t.drop i = w ++ r) : t.drop (i + w.length) = r := by
  rw [← List.drop_drop, h, List.drop_left]
theorem run_app {p : UInt8 → Bool} {t w r : List UInt8} {i : Nat} (h : t.drop i = w ++ r) (hw : w.all p = true) (hr : ∀ c q, r = c :: q → p c = false) (hi : i ≤ t.length) : runE p t i = i + w.length := by
  unfold runE
  rw [h]
  congr 1
  have : ∀ w : List UInt8, w.all p = true → ((w ++ r).takeWhile p).length = w.length := by
    intro w
    induction w with
    | nil =>
      intro _
      cases r with
      | nil => rfl
      | cons c q => simp [List.takeWhile, hr c q rfl]
    | cons x xs ih =>
      intro h
      simp only [List.all_cons, Bool.and_eq_true] at h
      simp [List.takeWhile, h.1, ih h.2]
  exact this w hw
theorem word_of {t w r : List UInt8} {i e : Nat} (h : t.drop i = w ++ r) (he : wend t i = i + w.length) : word t i = w := by
  unfold word
  rw [he, h, show i + w.length - i = w.length by omega, List.take_left]
theorem word_sign {t : List UInt8} {i : Nat} {c : UInt8} {r : List UInt8} (h : t.drop i = c :: r) (h1 : isLet c = false) (h2 : isDig c = false) : word t i = [c] ∧ wend t i = i + 1 := by
  obtain ⟨g1, g2, _⟩ := getD_drop h
  have : wend t i = i + 1 := by
    unfold wend
    rw [if_pos g2, g1, h1, h2]; rfl
  exact ⟨word_of (w := [c]) (e := 0) (r := r) h this, this⟩
theorem word_let {t w r : List UInt8} {i : Nat} (h : t.drop i = w ++ r) (h1 : isLet (w.getD 0 0) = true) (h2 : w.all isInn = true) (hr : Cl r) : word t i = w ∧ wend t i = i + w.length := by
  cases w with
  | nil => exact absurd h1 (by decide)
  | cons c q =>
    obtain ⟨g1, g2, _⟩ := getD_drop (show t.drop i = c :: (q ++ r) from h)
    have : wend t i = i + (c :: q).length := by
      unfold wend
      rw [if_pos g2, g1, if_pos (by simpa using h1)]
      exact run_app h h2 (fun c q e => hr c q e) (by omega)
    exact ⟨word_of (e := 0) h this, this⟩
theorem word_dig {t r : List UInt8} {i : Nat} {c : UInt8} (h : t.drop i = c :: r) (h1 : isDig c = true) (h3 : isLet c = false) (hr : ∀ d q, r = d :: q → isDig d = false) : word t i = [c] ∧ wend t i = i + 1 := by
  obtain ⟨g1, g2, _⟩ := getD_drop h
  have : wend t i = i + 1 := by
    unfold wend
    rw [if_pos g2, g1, h3, h1]
    exact run_app (w := [c]) h (by simp [h1]) hr (by omega)
  exact ⟨word_of (w := [c]) (e := 0) (r := r) h this, this⟩
def Nb (l : List UInt8) : Prop := ∀ c r, l = c :: r → isBl c = false
theorem skp_here {t r : List UInt8} {i : Nat} (h : t.drop i = r) (hr : Nb r) (hi : i ≤ t.length) : skp t i = i := by
  have := run_app (p := isBl) (w := []) (r := r) (by simpa using h) rfl hr hi
  simpa using this
theorem skp_one {t r : List UInt8} {i : Nat} (h : t.drop i = 32 :: r) (hr : Nb r) : skp t i = i + 1 := by
  have := run_app (p := isBl) (w := [32]) (r := r) (by simpa using h) rfl hr (by have := (getD_drop h).2.1; omega)
  simpa using this

theorem isName_spec {s : List UInt8} (h : isName s = true) : isLet (s.getD 0 0) = true ∧ s.all isInn = true ∧ s ≠ pwB ∧ 1 ≤ s.length := by
  simp only [isName, Bool.and_eq_true, decide_eq_true_eq, Bool.not_eq_true', beq_eq_false_iff_ne] at h
  exact ⟨h.1.1.2, h.2, h.1.2, h.1.1.1.1⟩
theorem dgB_spec {k : Int} (h1 : 0 ≤ k) (h2 : k ≤ 9) : isDig (dgB k) = true ∧ isLet (dgB k) = false ∧ (dgB k).toNat - 48 = k.toNat := by
  obtain ⟨n, rfl⟩ := Int.eq_ofNat_of_zero_le h1
  have : n ≤ 9 := by omega
  unfold dgB
  simp only [Int.toNat_natCast]
  have : n = 0 ∨ n = 1 ∨ n = 2 ∨ n = 3 ∨ n = 4 ∨ n = 5 ∨ n = 6 ∨ n = 7 ∨ n = 8 ∨ n = 9 := by omega
  rcases this with e | e | e | e | e | e | e | e | e | e <;> subst e <;> decide
theorem isInn_dig {c : UInt8} (h : isDig c = true) : isInn c = true := by unfold isInn; simp [h]
theorem bl_of_let {c : UInt8} (h : isLet c = true) : isBl c = false := by
  cases e : isBl c with
  | false => rfl
  | true =>
    have : c = 32 := by simpa [isBl] using e
    subst this; revert h; decide
theorem bl_of_dig {c : UInt8} (h : isDig c = true) : isBl c = false := by
  cases e : isBl c with
  | false => rfl
  | true =>
    have : c = 32 := by simpa [isBl] using e
    subst this; revert h; decide
theorem nb_cons {c : UInt8} {r : List UInt8} (h : isBl c = false) : Nb (c :: r) := fun _ _ e => by cases e; exact h
theorem nb_name {s r : List UInt8} (h : isName s = true) : Nb (s ++ r) := by
  cases s with
  | nil => exact absurd rfl (isName_ne h)
  | cons c q => exact nb_cons (bl_of_let (by simpa using (isName_spec h).1))
theorem nb_br {b : Bool} {s r : List UInt8} (h : ∀ r, Nb (s ++ r)) : Nb (brB b s ++ r) := by
  unfold brB
  split
  · exact nb_cons (by decide)
  · exact h r
theorem nb_leaf {n : Nd} (h : leafOk n) (r : List UInt8) : Nb (leafB n ++ r) := by
  unfold leafB
  rcases h with ⟨h1, h2, _⟩ | ⟨h1, h2, _⟩ | ⟨h1, h2, _⟩
  · rw [if_pos h1]; exact nb_name h2
  · rw [if_neg (by omega), if_pos h1]; exact nb_cons (by decide)
  · rw [if_neg (by omega), if_neg (by omega)]
    split <;> exact nb_cons (by decide)
theorem nb_pr : ∀ {T : Ft}, T.ok → ∀ r, Nb (T.pr ++ r)
  | .leaf n, h, r => nb_leaf h r
  | .un k a, h, r => by
    simp only [Ft.pr, List.append_assoc]
    exact nb_br fun r => nb_pr h.2.2 r
  | .bi op a b, h, r => by
    simp only [Ft.pr, List.append_assoc]
    exact nb_br fun r => nb_pr h.2.2.1 r

/-! ## Reading back -/

def tailK (r : Nat) (e : List Nd) : Kd := if r = 3 then .rai e else .bin r e
def Reads (t : List UInt8) (r : Nat) (i : Nat) (e : List Nd) (j : Nat) : Prop := ∀ o, Rs t (tailK r e) j o → Rs t (.lev r) i o
def Flw (t : List UInt8) (r j : Nat) : Prop := (∀ q, r < q → q < 3 → opOf q (word t j) = none) ∧ (r < 3 → word t j ≠ [94])
theorem Reads.up {t : List UInt8} {q i j : Nat} {e : List Nd} (h : Reads t q i e j) : ∀ (d r : Nat), q = r + d → q ≤ 3 → Flw t r j → Reads t r i e j
  | 0, r, hq, _, _ => by rw [hq] at h; exact h
  | d + 1, r, hq, h3, hf => by
    have h1 : Reads t (r + 1) i e j := Reads.up h d (r + 1) (by omega) h3 ⟨fun q a b => hf.1 q (by omega) b, fun a => hf.2 (by omega)⟩
    intro o ho
    unfold tailK at ho
    rw [if_neg (by omega)] at ho
    refine .levO (by omega) (h1 _ ?_) ho
    unfold tailK
    split
    · exact .rai0 (hf.2 (by omega))
    · exact .bin0 (hf.1 _ (by omega) (by omega))
theorem Reads.of {t : List UInt8} {i j r : Nat} {e : List Nd} (h : Rs t .pri i (.ok (e, j))) (hr : r ≤ 3) (hf : Flw t r j) : Reads t r i e j :=
  Reads.up (q := 3) (fun o ho => .raiO h ho) (3 - r) r (by omega) (Nat.le_refl _) hf
theorem Reads.done {t : List UInt8} {i j r : Nat} {e : List Nd} (h : Reads t r i e j) (hr : r ≤ 3) (h0 : r < 3 → opOf r (word t j) = none) (h3 : word t j ≠ [94]) : Rs t (.lev r) i (.ok (e, j)) := h _ (by
  unfold tailK
  split
  · exact .rai0 h3
  · exact .bin0 (h0 (by omega)))

theorem numP_dig {t : List UInt8} {i : Nat} {k : Int} {r : List UInt8} {lo hi : Nat} (h : t.drop i = dgB k :: r) (hr : ∀ d q, r = d :: q → isDig d = false) (h1 : (lo : Int) ≤ k) (h2 : k ≤ hi) (h3 : hi ≤ 9) : numP t lo hi i = .ok (k.toNat, nxt t i) ∧ wend t i = i + 1 := by
  obtain ⟨a, b, c⟩ := dgB_spec (k := k) (by omega) (by omega)
  obtain ⟨w1, w2⟩ := word_dig h a b hr
  refine ⟨?_, w2⟩
  have : digP t i = some k.toNat := by
    unfold digP
    rw [w1, if_pos ⟨rfl, by simpa using a⟩]
    simpa using c
  unfold numP
  rw [this]
  simp only
  rw [if_pos (by omega)]
theorem mustP_sign {t : List UInt8} {i : Nat} {c : UInt8} {r : List UInt8} (h : t.drop i = c :: r) (h1 : isLet c = false) (h2 : isDig c = false) : mustP t c i = .ok (skp t (i + 1)) := by
  obtain ⟨w1, w2⟩ := word_sign h h1 h2
  unfold mustP
  rw [if_pos w1]
  unfold nxt; rw [w2]
theorem nameP_name {t : List UInt8} {i : Nat} {s r : List UInt8} (h : t.drop i = s ++ r) (hs : isName s = true) (hr : Cl r) : nameP t i = .ok (s, skp t (i + s.length)) := by
  have hn := isName_spec hs
  obtain ⟨w1, w2⟩ := word_let h hn.1 hn.2.1 hr
  unfold nameP nxt
  rw [w1, w2, if_pos hs]
theorem opOf_sg {op : Int} (h1 : 5 ≤ op) (h2 : op ≤ 9) : opOf (rk op) [sgC op] = some op ∧ rk op < 3 ∧ (∀ q, rk op < q → q < 3 → opOf q [sgC op] = none) ∧ [sgC op] ≠ [94] ∧ isLet (sgC op) = false ∧ isDig (sgC op) = false ∧ isInn (sgC op) = false ∧ isBl (sgC op) = false := by
  have : op = 5 ∨ op = 6 ∨ op = 7 ∨ op = 8 ∨ op = 9 := by omega
  rcases this with e | e | e | e | e <;> subst e
  all_goals
    refine ⟨by decide, by decide, fun q a b => ?_, by decide, by decide, by decide, by decide, by decide⟩
    have hq : q = 0 ∨ q = 1 ∨ q = 2 := by omega
    rcases hq with e | e | e <;> subst e <;> first | decide | (exfalso; revert a; decide)
theorem leaf_reads {t : List UInt8} {i : Nat} {n : Nd} {r : List UInt8} (hn : leafOk n) (h : t.drop i = leafB n ++ r) (hr : Cl r) : Rs t .pri i (.ok ([n], skp t (i + (leafB n).length))) := by
  obtain ⟨op, s, k⟩ := n
  rcases hn with ⟨h1, h2, h3⟩ | ⟨h1, h2, h3, h4⟩ | ⟨h1, h2, h3⟩
  · simp only at h1 h2 h3; subst h1 h3
    have e : leafB ((1 : Int), s, (0 : Int)) = s := by unfold leafB; rfl
    rw [e] at h ⊢
    have hs := isName_spec h2
    obtain ⟨w1, w2⟩ := word_let h hs.1 hs.2.1 hr
    have ne : ∀ c : UInt8, isLet c = false → s ≠ [c] := fun c hc e => by rw [e] at hs; rw [show ([c] : List UInt8).getD 0 0 = c from rfl, hc] at hs; exact absurd hs.1 (by simp)
    have ha : atomP t i = .ok ([((1 : Int), s, (0 : Int))], skp t (i + s.length)) := by
      unfold atomP
      rw [w1, if_neg (ne _ (by decide)), if_neg (ne _ (by decide)), if_neg hs.2.2.1]
      unfold varP
      rw [nameP_name h h2 hr]
    rw [← ha]
    exact .atom (by rw [w1]; exact ne _ (by decide))
  · simp only at h1 h2 h3 h4; subst h1
    have e : leafB ((2 : Int), s, k) = pwB ++ (40 :: (s ++ [44, 32, dgB k, 41])) := by unfold leafB; rfl
    have hs := isName_spec h2
    rw [e] at h ⊢
    obtain ⟨d1, d2, d3⟩ := dgB_spec (k := k) (by omega) (by omega)
    have t0 : t.drop i = pwB ++ (40 :: (s ++ (44 :: 32 :: dgB k :: 41 :: r))) := by rw [h]; simp
    obtain ⟨w1, w2⟩ := word_let t0 (by decide) (by decide) (cl_cons (by decide))
    have t1 := drop_app t0
    have hle := (getD_drop t1).2.1
    have n0 : nxt t i = i + 5 := by
      unfold nxt; rw [w2]
      exact skp_here t1 (nb_cons (by decide)) (by omega)
    have t2 := (getD_drop t1).2.2
    have e1 : skp t (i + pwB.length + 1) = i + pwB.length + 1 := skp_here t2 (nb_name h2) (by omega)
    have m1 := mustP_sign t1 (by decide) (by decide)
    rw [e1] at m1
    have m2 := nameP_name t2 h2 (cl_cons (by decide))
    have t3 := drop_app t2
    have hle3 := (getD_drop t3).2.1
    have e3 : skp t (i + pwB.length + 1 + s.length) = i + pwB.length + 1 + s.length := skp_here t3 (nb_cons (by decide)) (by omega)
    rw [e3] at m2
    have m3 := mustP_sign t3 (by decide) (by decide)
    have t4 := (getD_drop t3).2.2
    have e4 := skp_one t4 (nb_cons (bl_of_dig d1))
    rw [e4] at m3
    have t5 := (getD_drop t4).2.2
    obtain ⟨m4, w4⟩ := numP_dig (lo := 2) (hi := 8) t5 (fun d q e => by cases e; decide) (by omega) (by omega) (by omega)
    have t6 := (getD_drop t5).2.2
    have hle6 := (getD_drop t6).2.1
    have e6 : nxt t (i + pwB.length + 1 + s.length + 1 + 1) = i + pwB.length + 1 + s.length + 1 + 1 + 1 := by
      unfold nxt; rw [w4]
      exact skp_here t6 (nb_cons (by decide)) (by omega)
    rw [e6] at m4
    have m5 := mustP_sign t6 (by decide) (by decide)
    have pl : pwB.length = 5 := rfl
    have hp : powP t (nxt t i) = .ok ([((2 : Int), s, k)], skp t (i + (pwB ++ (40 :: (s ++ [44, 32, dgB k, 41]))).length)) := by
      rw [n0]
      unfold powP
      rw [pl] at m1 m2 m3 m4 m5
      rw [m1]; simp only
      rw [m2]; simp only
      rw [m3]; simp only
      rw [m4]; simp only
      rw [m5]; simp only
      have : ((k.toNat : Nat) : Int) = k := Int.toNat_of_nonneg (by omega)
      rw [this]
      congr 3
      simp [pl]; omega
    have ha : atomP t i = .ok ([((2 : Int), s, k)], skp t (i + (pwB ++ (40 :: (s ++ [44, 32, dgB k, 41]))).length)) := by
      unfold atomP
      rw [w1, if_neg (by decide), if_neg (by decide), if_pos rfl, hp]
    rw [← ha]
    exact .atom (by rw [w1]; decide)
  · simp only at h1 h2 h3; subst h2 h3
    have key : ∀ c : UInt8, isDig c = true → isLet c = false → t.drop i = c :: r → word t i = [c] ∧ nxt t i = skp t (i + 1) := fun c a b hc => by
      obtain ⟨w1, w2⟩ := word_dig hc a b (fun d q e => by
        cases hd : isDig d with
        | false => rfl
        | true => have := hr d q e; rw [isInn_dig hd] at this; cases this)
      exact ⟨w1, by unfold nxt; rw [w2]⟩
    rcases h1 with h1 | h1 <;> subst h1
    · have e : leafB ((3 : Int), [], (0 : Int)) = [49] := rfl
      rw [e] at h ⊢
      obtain ⟨w1, w2⟩ := key 49 (by decide) (by decide) h
      have ha : atomP t i = .ok ([((3 : Int), [], (0 : Int))], skp t (i + [(49 : UInt8)].length)) := by
        unfold atomP
        rw [w1, if_neg (by decide), if_pos rfl, w2]; rfl
      rw [← ha]
      exact .atom (by rw [w1]; decide)
    · have e : leafB ((4 : Int), [], (0 : Int)) = [48] := rfl
      rw [e] at h ⊢
      obtain ⟨w1, w2⟩ := key 48 (by decide) (by decide) h
      have ha : atomP t i = .ok ([((4 : Int), [], (0 : Int))], skp t (i + [(48 : UInt8)].length)) := by
        unfold atomP
        rw [w1, if_pos rfl, w2]; rfl
      rw [← ha]
      exact .atom (by rw [w1]; decide)

theorem br_reads {t : List UInt8} {i : Nat} {T : Ft} {r : List UInt8} (hT : T.ok) (h : t.drop i = 40 :: (T.pr ++ 41 :: r)) (ih : ∀ {i r}, t.drop i = T.pr ++ r → Cl r → Flw t 0 (skp t (i + T.pr.length)) → Reads t 0 i T.flat (skp t (i + T.pr.length))) : Rs t .pri i (.ok (T.flat, skp t (i + (T.pr.length + 2)))) := by
  obtain ⟨w1, w2⟩ := word_sign h (by decide) (by decide)
  have t1 := (getD_drop h).2.2
  have hl := (getD_drop h).2.1
  have n0 : nxt t i = i + 1 := by
    unfold nxt; rw [w2]; exact skp_here t1 (nb_pr hT _) (by omega)
  have t2 := drop_app t1
  have hl2 := (getD_drop t2).2.1
  have e2 : skp t (i + 1 + T.pr.length) = i + 1 + T.pr.length := skp_here t2 (nb_cons (by decide)) (by omega)
  obtain ⟨w3, w4⟩ := word_sign t2 (by decide) (by decide)
  have hf : Flw t 0 (skp t (i + 1 + T.pr.length)) := by
    rw [e2]
    refine ⟨fun q a b => ?_, fun _ => by rw [w3]; decide⟩
    rw [w3]
    have : q = 1 ∨ q = 2 := by omega
    rcases this with e | e <;> subst e <;> rfl
  have R := ih t1 (cl_cons (by decide)) hf
  rw [e2] at R
  have R := R.done (by omega) (fun _ => by rw [w3]; rfl) (by rw [w3]; decide)
  have m := mustP_sign t2 (by decide) (by decide)
  have := Rs.brO w1 (by rw [n0]; exact R) m
  rw [show i + (T.pr.length + 2) = i + 1 + T.pr.length + 1 by omega]
  exact this

theorem brB_true (s : List UInt8) : brB true s = 40 :: (s ++ [41]) := rfl
theorem brB_false (s : List UInt8) : brB false s = s := rfl
theorem pr_reads (t : List UInt8) : ∀ (T : Ft), T.ok → ∀ {i : Nat} {r : List UInt8} (q : Nat), q ≤ rk T.op → q ≤ 3 → t.drop i = T.pr ++ r → Cl r → Flw t q (skp t (i + T.pr.length)) → Reads t q i T.flat (skp t (i + T.pr.length)) := by
  intro T
  -- an operand, in brackets or not
  have opd : ∀ (a : Ft), a.ok → (∀ {i : Nat} {r : List UInt8} (q : Nat), q ≤ rk a.op → q ≤ 3 → t.drop i = a.pr ++ r → Cl r → Flw t q (skp t (i + a.pr.length)) → Reads t q i a.flat (skp t (i + a.pr.length))) → ∀ {i : Nat} {r : List UInt8} (q : Nat), q ≤ 3 → t.drop i = brB (decide (rk a.op < q)) a.pr ++ r → Cl r → Flw t q (skp t (i + (brB (decide (rk a.op < q)) a.pr).length)) → Reads t q i a.flat (skp t (i + (brB (decide (rk a.op < q)) a.pr).length)) := fun a ha ih i r q hq h hr hf => by
    by_cases hk : rk a.op < q
    · rw [decide_eq_true hk, brB_true] at h hf ⊢
      have h' : t.drop i = 40 :: (a.pr ++ 41 :: r) := by rw [h]; simp
      have := br_reads ha h' (fun h1 h2 h3 => ih 0 (Nat.zero_le _) (by omega) h1 h2 h3)
      rw [show (40 :: (a.pr ++ [41]) : List UInt8).length = a.pr.length + 2 by simp] at hf ⊢
      exact Reads.of this hq hf
    · rw [decide_eq_false hk, brB_false] at h hf ⊢
      exact ih q (by omega) hq h hr hf
  induction T with
  | leaf n =>
    intro hT i r q _ h3 h hr hf
    exact Reads.of (leaf_reads hT h hr) h3 hf
  | un k a iha =>
    intro hT i r q h1 h3 h hr hf
    simp only [Ft.ok] at hT
    simp only [Ft.pr] at h hf ⊢
    obtain ⟨d1, d2, d3⟩ := dgB_spec (k := k) (by omega) (by omega)
    have h' : t.drop i = brB (decide (rk a.op < 3)) a.pr ++ (94 :: dgB k :: r) := by rw [h]; simp
    have t1 := drop_app h'
    have hl1 := (getD_drop t1).2.1
    have e1 : skp t (i + (brB (decide (rk a.op < 3)) a.pr).length) = i + (brB (decide (rk a.op < 3)) a.pr).length := skp_here t1 (nb_cons (by decide)) (by omega)
    obtain ⟨w1, w2⟩ := word_sign t1 (by decide) (by decide)
    have R := opd a hT.2.2 (fun q => iha hT.2.2 q) 3 (by omega) h' (cl_cons (by decide)) ⟨fun q a b => by omega, fun a => by omega⟩
    rw [e1] at R
    have t2 := (getD_drop t1).2.2
    have hl2 := (getD_drop t2).2.1
    have n1 : nxt t (i + (brB (decide (rk a.op < 3)) a.pr).length) = i + (brB (decide (rk a.op < 3)) a.pr).length + 1 := by
      unfold nxt; rw [w2]; exact skp_here t2 (nb_cons (bl_of_dig d1)) (by omega)
    obtain ⟨m1, w3⟩ := numP_dig (lo := 1) (hi := 6) t2 (fun d q e => by
        cases hd : isDig d with
        | false => rfl
        | true => have := hr d q e; rw [isInn_dig hd] at this; cases this) (by omega) (by omega) (by omega)
    rw [← n1] at m1
    have key : Reads t 3 i (Ft.un k a).flat (skp t (i + (brB (decide (rk a.op < 3)) a.pr ++ [94, dgB k]).length)) := by
      intro o ho
      refine R o ?_
      have e : nxt t (nxt t (i + (brB (decide (rk a.op < 3)) a.pr).length)) = skp t (i + (brB (decide (rk a.op < 3)) a.pr ++ [94, dgB k]).length) := by
        rw [n1]; unfold nxt; rw [w3]
        congr 1
        simp; omega
      refine Rs.raiN w1 m1 ?_
      have hk : ((k.toNat : Nat) : Int) = k := Int.toNat_of_nonneg (by omega)
      rw [hk, e]
      exact ho
    exact Reads.up key (3 - q) q (by omega) (by omega) hf
  | bi op a b iha ihb =>
    intro hT i r q h1 h3 h hr hf
    simp only [Ft.ok] at hT
    obtain ⟨o1, o2, o3, o4, o5, o6, o7, o8⟩ := opOf_sg hT.1 hT.2.1
    simp only [Ft.op] at h1
    simp only [Ft.pr] at h hf ⊢
    generalize hA : brB (decide (rk a.op < rk op)) a.pr = A at *
    generalize hB : brB (decide (rk b.op < rk op + 1)) b.pr = B at *
    have h' : t.drop i = A ++ (sgB op ++ (B ++ r)) := by rw [h]; simp
    have t1 := drop_app h'
    -- the sign
    have nbB : Nb (B ++ r) := by rw [← hB]; exact nb_br fun r => nb_pr hT.2.2.2 r
    have sg : ∃ p rest, skp t (i + A.length) = p ∧ t.drop p = sgC op :: rest ∧ skp t (p + 1) = i + A.length + (sgB op).length ∧ Cl (sgB op ++ (B ++ r)) := by
      have t2 := drop_app t1
      have hle : i + A.length + (sgB op).length ≤ t.length := by
        have := congrArg List.length h'
        simp at this
        have : (sgB op).length ≥ 1 := by unfold sgB; split <;> simp
        have h0 : i ≤ t.length := by
          by_cases hi : i ≤ t.length
          · exact hi
          · rw [List.drop_eq_nil_of_le (by omega)] at h'
            have := congrArg List.length h'
            simp at this; omega
        omega
      by_cases h7 : op = 7
      · subst h7
        have e7 : sgB 7 = [58] := rfl
        rw [e7] at t1 t2 hle ⊢
        have hle' : i + A.length + 1 ≤ t.length := hle
        have e8 : skp t (i + A.length) = i + A.length := skp_here t1 (nb_cons (by decide)) (by omega)
        refine ⟨i + A.length, B ++ r, e8, t1, ?_, cl_cons (c := 58) (by decide)⟩
        exact skp_here t2 nbB hle
      · have e7 : sgB op = [32, sgC op, 32] := by unfold sgB; rw [if_neg h7]
        rw [e7] at t1 t2 hle ⊢
        have s1 := skp_one t1 (nb_cons o8)
        have t3 := (getD_drop t1).2.2
        have t4 := (getD_drop t3).2.2
        refine ⟨_, _, s1, t3, ?_, cl_cons (c := 32) (by decide)⟩
        have := skp_one t4 nbB
        rw [this]; simp
    obtain ⟨p, rest, p1, p2, p3, p4⟩ := sg
    obtain ⟨w1, w2⟩ := word_sign p2 o5 o6
    have n1 : nxt t p = i + A.length + (sgB op).length := by unfold nxt; rw [w2]; exact p3
    have RA : Reads t (rk op) i a.flat p := by
      have := opd a hT.2.2.1 (fun q => iha hT.2.2.1 q) (rk op) (by omega) (r := sgB op ++ (B ++ r)) (i := i) (by rw [hA]; exact h') p4
      rw [hA, p1] at this
      exact this ⟨fun q a b => by rw [w1]; exact o3 q a b, fun _ => by rw [w1]; exact o4⟩
    have t5 : t.drop (i + A.length + (sgB op).length) = B ++ r := drop_app t1
    have ej : i + A.length + (sgB op).length + B.length = i + (A ++ (sgB op ++ B)).length := by simp; omega
    have RB : Reads t (rk op + 1) (i + A.length + (sgB op).length) b.flat (skp t (i + (A ++ (sgB op ++ B)).length)) := by
      have := opd b hT.2.2.2 (fun q => ihb hT.2.2.2 q) (rk op + 1) (by omega) (r := r) (i := i + A.length + (sgB op).length) (by rw [hB]; exact t5) hr
      rw [hB, ej] at this
      exact this ⟨fun q a b => hf.1 q (by omega) b, fun _ => hf.2 (by omega)⟩
    have RB := RB.done (by omega) (fun a => hf.1 _ (by omega) a) (hf.2 (by omega))
    rw [← n1] at RB
    have key : Reads t (rk op) i (Ft.bi op a b).flat (skp t (i + (A ++ (sgB op ++ B)).length)) := by
      intro o ho
      refine RA o ?_
      unfold tailK at ho ⊢
      rw [if_neg (by omega)] at ho ⊢
      exact .binO (by rw [w1]; exact o1) RB ho
    exact Reads.up key (rk op - q) q (by omega) (by omega) hf

end Go.Vw

/-
  What is read is a tree; which lists of nodes are trees; where an expression ends. Conditions: none.
-/
namespace Go.Vw

def Built (e : List Nd) : Prop := ∃ T : Ft, T.flat = e ∧ T.ok
def Kd.built : Kd → Prop
  | .bin _ e => Built e
  | .rai e => Built e
  | _ => True
theorem opOf_op {r : Nat} {w : List UInt8} {op : Int} (h : opOf r w = some op) : 5 ≤ op ∧ op ≤ 9 := by
  unfold opOf at h
  split at h
  · split at h
    · cases h; omega
    · split at h
      · cases h; omega
      · cases h
  · split at h
    · split at h
      · cases h; omega
      · split at h
        · cases h; omega
        · cases h
    · split at h
      · cases h; omega
      · cases h
theorem atomP_built {t : List UInt8} {i j : Nat} {e : List Nd} (h : atomP t i = .ok (e, j)) : Built e := by
  unfold atomP at h
  split at h
  · cases h; exact ⟨.leaf _, rfl, .inr (.inr ⟨.inr rfl, rfl, rfl⟩)⟩
  · split at h
    · cases h; exact ⟨.leaf _, rfl, .inr (.inr ⟨.inl rfl, rfl, rfl⟩)⟩
    · split at h
      · obtain ⟨_, _, _, s, n, rfl, h1, h2, h3⟩ := powP_ok h
        exact ⟨.leaf _, rfl, .inr (.inl ⟨rfl, h1, by simp only; omega, by simp only; omega⟩)⟩
      · unfold varP at h
        split at h
        · cases h
        · rename_i s k hk; cases h
          exact ⟨.leaf _, rfl, .inl ⟨rfl, (nameP_ok hk).2.2.2.2, rfl⟩⟩
def BuiltO : Pos (List Nd) → Prop
  | .ok (e, _) => Built e
  | .error _ => True
theorem Rs.tree {t : List UInt8} {k : Kd} {i : Nat} {o : Pos (List Nd)} (h : Rs t k i o) : k.built → BuiltO o := by
  induction h with
  | levE h h1 ih => exact fun _ => trivial
  | levO h h1 h2 ih1 ih2 => exact fun _ => ih2 (ih1 trivial)
  | raiE h1 ih => exact fun _ => trivial
  | raiO h1 h2 ih1 ih2 => exact fun _ => ih2 (ih1 trivial)
  | bin0 h => exact fun h => h
  | binE h h1 ih => exact fun _ => trivial
  | binO h h1 h2 ih1 ih2 =>
    intro hb
    obtain ⟨a, e1, a1⟩ := hb
    obtain ⟨b, e2, b1⟩ := ih1 trivial
    have := opOf_op h
    refine ih2 ⟨.bi _ a b, ?_, this.1, this.2, a1, b1⟩
    simp only [Ft.flat, e1, e2]
  | rai0 h => exact fun h => h
  | raiX h h1 => exact fun _ => trivial
  | @raiN e i n j o h h1 h2 ih =>
    intro hb
    obtain ⟨a, e1, a1⟩ := hb
    have := numP_ok h1
    refine ih ⟨.un (n : Int) a, by simp only [Ft.flat, e1], by omega, by omega, a1⟩
  | @atom i h =>
    intro _
    cases ha : atomP t i with
    | error x => trivial
    | ok p => exact atomP_built ha
  | brE h h1 ih => exact fun _ => trivial
  | brX h h1 h2 ih => exact fun _ => trivial
  | brO h h1 h2 ih => exact fun _ => ih trivial

/-! ## Lists of nodes -/

def leafB? (n : Nd) : Bool := (n.1 == 1 && isName n.2.1 && n.2.2 == 0) || (n.1 == 2 && isName n.2.1 && decide (2 ≤ n.2.2) && decide (n.2.2 ≤ 8)) || ((n.1 == 3 || n.1 == 4) && n.2.1 == [] && n.2.2 == 0)
theorem leafB?_iff {n : Nd} : leafB? n = true ↔ leafOk n := by
  unfold leafB? leafOk
  simp [and_assoc, or_assoc]
def opnd (n : Nd) : Option Nat :=
  if leafB? n then some 0
  else if n.1 = 10 ∧ n.2.1 = [] ∧ 1 ≤ n.2.2 ∧ n.2.2 ≤ 6 then some 1
  else if 5 ≤ n.1 ∧ n.1 ≤ 9 ∧ n.2.1 = [] ∧ n.2.2 = 0 then some 2
  else none
def cnt : List Nd → Nat → Bool
  | [], k => k == 0
  | n :: l, k => match opnd n, k with
    | some a, k + 1 => cnt l (k + a)
    | _, _ => false
def flatL : List Ft → List Nd
  | [] => []
  | T :: r => T.flat ++ flatL r
theorem cnt_trees : ∀ {l : List Nd} {k : Nat}, cnt l k = true → ∃ Ts : List Ft, Ts.length = k ∧ flatL Ts = l ∧ ∀ T ∈ Ts, T.ok
  | [], k, h => by
    have : k = 0 := by simpa [cnt] using h
    subst this; exact ⟨[], rfl, rfl, by simp⟩
  | n :: l, 0, h => by
    simp only [cnt] at h
    cases ho : opnd n <;> rw [ho] at h <;> cases h
  | n :: l, k + 1, h => by
    simp only [cnt] at h
    cases ho : opnd n with
    | none => rw [ho] at h; cases h
    | some a =>
      rw [ho] at h
      obtain ⟨Ts, h1, h2, h3⟩ := cnt_trees h
      obtain ⟨op, s, m⟩ := n
      unfold opnd at ho
      split at ho
      · rename_i hl
        cases ho
        exact ⟨.leaf (op, s, m) :: Ts, by simp [h1], by simp [flatL, Ft.flat, h2], fun T hT => by
          rcases List.mem_cons.1 hT with rfl | hT
          · exact leafB?_iff.1 hl
          · exact h3 T hT⟩
      · split at ho
        · rename_i hu
          cases ho
          simp only at hu
          obtain ⟨u1, u2, u3, u4⟩ := hu
          subst u1 u2
          cases Ts with
          | nil => simp at h1
          | cons a Ts =>
            exact ⟨.un m a :: Ts, by simpa using h1, by simp only [flatL, Ft.flat] at h2 ⊢; rw [← h2]; simp, fun T hT => by
              rcases List.mem_cons.1 hT with rfl | hT
              · exact ⟨u3, u4, h3 a (by simp)⟩
              · exact h3 T (by simp [hT])⟩
        · split at ho
          · rename_i hu
            cases ho
            simp only at hu
            obtain ⟨u1, u2, u3, u4⟩ := hu
            subst u3 u4
            match Ts, h1 with
            | a :: b :: Ts, h1 =>
              exact ⟨.bi op a b :: Ts, by simp at h1 ⊢; omega, by simp only [flatL, Ft.flat] at h2 ⊢; rw [← h2]; simp, fun T hT => by
                rcases List.mem_cons.1 hT with rfl | hT
                · exact ⟨u1, u2, h3 a (by simp), h3 b (by simp)⟩
                · exact h3 T (by simp [hT])⟩
            | [a], h1 => simp at h1
            | [], h1 => simp at h1
          · cases ho
theorem opnd_leaf {n : Nd} (h : leafOk n) : opnd n = some 0 := by
  unfold opnd; rw [if_pos (leafB?_iff.2 h)]
theorem opnd_un {k : Int} (h1 : 1 ≤ k) (h2 : k ≤ 6) : opnd ((10 : Int), [], k) = some 1 := by
  unfold opnd
  have : leafB? ((10 : Int), [], k) = false := by simp [leafB?]
  rw [this]
  rw [if_neg (by simp), if_pos ⟨rfl, rfl, h1, h2⟩]
theorem opnd_bi {op : Int} (h1 : 5 ≤ op) (h2 : op ≤ 9) : opnd (op, [], (0 : Int)) = some 2 := by
  unfold opnd
  have : leafB? (op, [], (0 : Int)) = false := by
    cases h : leafB? (op, [], (0 : Int)) with
    | false => rfl
    | true => exact absurd (leafB?_iff.1 h) (by unfold leafOk; simp only; omega)
  rw [this]
  rw [if_neg (by simp), if_neg (fun h => by have := h.1; omega), if_pos ⟨h1, h2, rfl, rfl⟩]
theorem cnt_app : ∀ (T : Ft), T.ok → ∀ (l : List Nd) (k : Nat), cnt (T.flat ++ l) (k + 1) = cnt l k
  | .leaf n, h, l, k => by
    simp only [Ft.flat, List.cons_append, List.nil_append, cnt, opnd_leaf h, Nat.add_zero]
  | .un m a, h, l, k => by
    simp only [Ft.flat, List.cons_append, cnt, opnd_un h.1 h.2.1]
    exact cnt_app a h.2.2 l k
  | .bi op a b, h, l, k => by
    simp only [Ft.flat, List.cons_append, List.append_assoc, cnt, opnd_bi h.1 h.2.1]
    rw [cnt_app a h.2.2.1, cnt_app b h.2.2.2]
theorem cnt_built {e : List Nd} : cnt e 1 = true ↔ Built e := by
  constructor
  · intro h
    obtain ⟨Ts, h1, h2, h3⟩ := cnt_trees h
    obtain ⟨T, rfl⟩ := List.length_eq_one_iff.1 h1
    exact ⟨T, by simpa [flatL] using h2, h3 T (by simp)⟩
  · rintro ⟨T, rfl, h⟩
    have := cnt_app T h [] 0
    simpa [cnt] using this

def arity (op : Int) : Int := if 1 ≤ op ∧ op ≤ 4 then 0 else if op = 10 then 1 else if 5 ≤ op ∧ op ≤ 9 then 2 else -1
def endN : List Nd → Nat → Option Nat
  | [], _ => none
  | n :: l, k => if arity n.1 < 0 then none else
    match k + (arity n.1).toNat - 1 with
    | 0 => some 1
    | j + 1 => (endN l (j + 1)).map (· + 1)
theorem opnd_arity {n : Nd} {a : Nat} (h : opnd n = some a) : arity n.1 = a := by
  unfold opnd at h
  split at h
  · rename_i hl
    cases h
    have hl := leafB?_iff.1 hl
    unfold arity
    rw [if_pos (by rcases hl with h | h | h <;> omega)]; rfl
  · split at h
    · rename_i hu; cases h; unfold arity; rw [if_neg (by omega), if_pos hu.1]; rfl
    · split at h
      · rename_i hu; cases h; unfold arity; rw [if_neg (by omega), if_neg (by omega), if_pos ⟨hu.1, hu.2.1⟩]; rfl
      · cases h
theorem endN_app : ∀ (T : Ft), T.ok → ∀ (l : List Nd) (k : Nat), endN (T.flat ++ l) (k + 1) = if k = 0 then some T.flat.length else (endN l k).map (· + T.flat.length)
  | .leaf n, h, l, k => by
    have ha := opnd_arity (opnd_leaf h)
    simp only [Ft.flat, List.cons_append, List.nil_append, endN, ha]
    cases k with
    | zero => rfl
    | succ k => simp
  | .un m a, h, l, k => by
    have ha := opnd_arity (opnd_un h.1 h.2.1)
    simp only [Ft.flat, List.cons_append, endN]
    simp only at ha
    rw [ha]
    have := endN_app a h.2.2 l k
    simp only [show ¬ ((1 : Nat) : Int) < 0 by omega, if_false, Int.toNat_natCast, show k + 1 + 1 - 1 = k + 1 by omega]
    rw [this]
    split
    · simp
    · simp only [Option.map_map, List.length_cons]; congr 1
  | .bi op a b, h, l, k => by
    have ha := opnd_arity (opnd_bi h.1 h.2.1)
    simp only [Ft.flat, List.cons_append, endN]
    simp only at ha
    rw [ha]
    simp only [show ¬ ((2 : Nat) : Int) < 0 by omega, if_false, Int.toNat_natCast, show k + 1 + 2 - 1 = (k + 1) + 1 by omega, List.append_assoc]
    rw [endN_app a h.2.2.1, endN_app b h.2.2.2]
    simp only [Nat.add_eq_zero_iff, Nat.one_ne_zero, and_false, if_false]
    split
    · simp [Nat.add_assoc, Nat.add_comm]
    · simp only [Option.map_map]
      congr 1
      funext x
      simp; omega
theorem endN_le : ∀ {l : List Nd} {k n : Nat}, endN l k = some n → 1 ≤ n ∧ n ≤ l.length
  | [], k, n, h => by cases h
  | x :: l, k, n, h => by
    simp only [endN] at h
    split at h
    · cases h
    · split at h
      · cases h; simp
      · simp only [Option.map_eq_some_iff] at h
        obtain ⟨m, h1, rfl⟩ := h
        have := endN_le h1
        simp; omega
theorem endN_cnt : ∀ {l : List Nd} {k : Nat}, (∀ n ∈ l, opnd n ≠ none) → 1 ≤ k → (endN l k = some l.length ↔ cnt l k = true)
  | [], k, _, h1 => by simp only [endN, cnt]; simp; omega
  | n :: l, 0, _, h1 => by omega
  | n :: l, k + 1, h, h1 => by
    obtain ⟨a, ha⟩ := Option.ne_none_iff_exists'.1 (h n (by simp))
    have har := opnd_arity ha
    simp only [endN, cnt, ha, har, Int.toNat_natCast]
    rw [if_neg (by omega), show k + 1 + a - 1 = k + a by omega]
    cases hk : k + a with
    | zero =>
      simp only
      cases l with
      | nil => simp [cnt]
      | cons m l => simp [cnt]
    | succ j =>
      simp only
      have := endN_cnt (l := l) (k := j + 1) (fun n hn => h n (by simp [hn])) (by omega)
      rw [← this]
      constructor
      · intro h
        simp only [Option.map_eq_some_iff] at h
        obtain ⟨m, h1, h2⟩ := h
        rw [h1]; simp at h2; rw [h2]
      · intro h; rw [h]; simp

end Go.Vw

/-
  A text cut at a word's beginning is read alike up to there. Conditions: the cut is at a word's beginning.
-/
set_option linter.unusedSectionVars false
namespace Go.Vw

structure CutAt (t : List UInt8) (c : Nat) : Prop extends At t c where
  cl : c = 0 ∨ isInn (t.getD (c - 1) 0) = false
section
variable {t : List UInt8} {c : Nat} (hc : CutAt t c)
include hc
theorem cut_len : (t.take c).length = c := by have := hc.le; simp; omega
theorem cut_get {i : Nat} (h : i < c) : (t.take c).getD i 0 = t.getD i 0 := by
  simp [List.getD_eq_getElem?_getD, List.getElem?_take, h]
theorem cut_run {p : UInt8 → Bool} {i : Nat} (hi : i ≤ c) (h : runE p t i ≤ c) : runE p (t.take c) i = runE p t i := by
  refine runE_eq (runE_ge _ _ _) (by rw [cut_len hc]; exact h) (fun k a b => ?_) (fun a => ?_)
  · rw [cut_get hc (by omega)]; exact runE_in p a b
  · rw [cut_len hc] at a
    rw [cut_get hc a]; exact runE_stop p (by have := hc.le; omega)
theorem run_cut {p : UInt8 → Bool} (hp : ∀ x, p x = true → isInn x = true) {i : Nat} (hi : i < c) : runE p t i ≤ c := by
  rcases Nat.lt_or_ge c (runE p t i) with h | h
  · exfalso
    rcases hc.cl with h0 | h0
    · omega
    · have := hp _ (runE_in p (t := t) (i := i) (j := c - 1) (by omega) (by omega))
      rw [h0] at this; cases this
  · exact h
theorem cut_wend {i : Nat} (hi : i < c) : wend t i ≤ c ∧ wend (t.take c) i = wend t i := by
  have hle := hc.le
  have h1 : i < t.length := by omega
  have h2 : i < (t.take c).length := by rw [cut_len hc]; exact hi
  unfold wend
  rw [if_pos h1, if_pos h2, cut_get hc hi]
  split
  · have := run_cut hc (p := isInn) (fun _ h => h) hi
    exact ⟨this, cut_run hc (by omega) this⟩
  · split
    · have := run_cut hc (p := isDig) (fun _ h => isInn_dig h) hi
      exact ⟨this, cut_run hc (by omega) this⟩
    · exact ⟨by omega, rfl⟩
theorem cut_word {i : Nat} (hi : i < c) : word (t.take c) i = word t i := by
  obtain ⟨h1, h2⟩ := cut_wend hc hi
  unfold word
  rw [h2, List.drop_take, List.take_take, Nat.min_eq_left (by omega)]
theorem cut_end : word (t.take c) c = [] := (word_nil (by rw [cut_len hc]; omega)).2 (cut_len hc).symm
theorem skp_cut {i : Nat} (hi : i ≤ c) : skp t i ≤ c := by
  rcases Nat.lt_or_ge c (skp t i) with h | h
  · exfalso
    have h1 := runE_in isBl (t := t) (i := i) hi h
    have hle := hc.le
    by_cases e : c < t.length
    · have h2 := runE_stop isBl (t := t) (i := c) (by have := hc.skp; unfold skp at this; rw [this]; exact e)
      have h3 := hc.skp
      unfold skp at h3
      rw [h3, h1] at h2; cases h2
    · have := runE_le isBl (t := t) (i := i) (by omega)
      unfold skp at h; omega
  · exact h
theorem cut_nxt {i : Nat} (hi : i < c) : nxt t i ≤ c ∧ nxt (t.take c) i = nxt t i := by
  obtain ⟨h1, h2⟩ := cut_wend hc hi
  unfold nxt
  rw [h2]
  exact ⟨skp_cut hc h1, cut_run hc h1 (skp_cut hc h1)⟩
def CutR (t : List UInt8) (c : Nat) (k : Kd) (i : Nat) : Pos (List Nd) → Prop
  | .ok (e, j) => j ≤ c → Rs (t.take c) k i (.ok (e, j))
  | .error x => x.1 = c → ∃ o', Rs (t.take c) k i o' ∧ (o' = .error (c, 3) ∨ ∃ e, o' = .ok (e, c))
theorem must_cut {d : UInt8} {i : Nat} (hi : i ≤ c) : (∀ j, mustP t d i = .ok j → j ≤ c → i < c → mustP (t.take c) d i = .ok j) ∧ (i = c → mustP (t.take c) d i = .error (c, 3)) := by
  constructor
  · intro j h hj hlt
    have := mustP_ok h
    unfold mustP
    rw [cut_word hc hlt, if_pos this.2.2.2, (cut_nxt hc hlt).2, this.2.2.1]
  · intro e; subst e
    unfold mustP
    rw [cut_end hc, if_neg (by simp)]
theorem name_cut {i : Nat} : (∀ s j, nameP t i = .ok (s, j) → i < c → nameP (t.take c) i = .ok (s, j)) ∧ (i = c → nameP (t.take c) i = .error (c, 3)) := by
  constructor
  · intro s j h hlt
    have := nameP_ok h
    unfold nameP
    rw [cut_word hc hlt, ← this.2.2.2.1, if_pos this.2.2.2.2, (cut_nxt hc hlt).2, this.2.2.1]
  · intro e; subst e
    unfold nameP
    rw [cut_end hc, if_neg (by decide)]
theorem num_cut {lo hi i : Nat} : (∀ n j, numP t lo hi i = .ok (n, j) → i < c → numP (t.take c) lo hi i = .ok (n, j)) ∧ (i = c → numP (t.take c) lo hi i = .error (c, 3)) := by
  constructor
  · intro n j h hlt
    have := numP_ok h
    have hd : digP (t.take c) i = some n := by
      have := this.2.2.2.2.2
      unfold digP at this ⊢
      rw [cut_word hc hlt]; exact this
    unfold numP
    rw [hd]
    simp only
    rw [if_pos ⟨this.2.2.2.1, this.2.2.2.2.1⟩, (cut_nxt hc hlt).2, this.2.2.1]
  · intro e; subst e
    unfold numP digP
    rw [cut_end hc]
    simp
theorem pow_cut {i : Nat} (hi : At t i) (hic : i ≤ c) : (∀ e j, powP t i = .ok (e, j) → j ≤ c → powP (t.take c) i = .ok (e, j)) ∧ (∀ x, powP t i = .error x → x.1 = c → powP (t.take c) i = .error (c, 3)) := by
  constructor
  · intro e j h hj
    unfold powP at h
    repeat' split at h
    all_goals first | (cases h; done) | skip
    rename_i _ i1 h1 _ s i2 h2 _ i3 h3 _ n i4 h4 _ i5 h5
    cases h
    have a1 := mustP_ok h1
    have a2 := nameP_ok h2
    have a3 := mustP_ok h3
    have a4 := numP_ok h4
    have a5 := mustP_ok h5
    unfold powP
    rw [(must_cut hc (by omega)).1 _ h1 (by omega) (by omega)]; simp only
    rw [(name_cut hc).1 _ _ h2 (by omega)]; simp only
    rw [(must_cut hc (by omega)).1 _ h3 (by omega) (by omega)]; simp only
    rw [(num_cut hc).1 _ _ h4 (by omega)]; simp only
    rw [(must_cut hc (by omega)).1 _ h5 (by omega) (by omega)]
  · intro x h hx
    unfold powP at h ⊢
    split at h
    · rename_i h1; cases h
      have e := (mustP_er h1).1; subst e
      rw [(must_cut hc (by omega)).2 hx]
    · rename_i i1 h1
      have a1 := mustP_ok h1
      split at h
      · rename_i h2; cases h
        have e := (nameP_er h2).1; subst e
        simp only at hx
        rw [(must_cut hc (by omega)).1 _ h1 (by omega) (by omega)]; simp only
        rw [(name_cut hc).2 hx]
      · rename_i s i2 h2
        have a2 := nameP_ok h2
        split at h
        · rename_i h3; cases h
          have e := (mustP_er h3).1; subst e
          simp only at hx
          rw [(must_cut hc (by omega)).1 _ h1 (by omega) (by omega)]; simp only
          rw [(name_cut hc).1 _ _ h2 (by omega)]; simp only
          rw [(must_cut hc (by omega)).2 hx]
        · rename_i i3 h3
          have a3 := mustP_ok h3
          split at h
          · rename_i h4; cases h
            have e : x.1 = i3 := by rcases numP_er h4 with e | e <;> rw [e]
            rw [(must_cut hc (by omega)).1 _ h1 (by omega) (by omega)]; simp only
            rw [(name_cut hc).1 _ _ h2 (by omega)]; simp only
            rw [(must_cut hc (by omega)).1 _ h3 (by omega) (by omega)]; simp only
            rw [(num_cut hc).2 (by omega)]
          · rename_i n i4 h4
            have a4 := numP_ok h4
            split at h
            · rename_i h5; cases h
              have e := (mustP_er h5).1; subst e
              simp only at hx
              rw [(must_cut hc (by omega)).1 _ h1 (by omega) (by omega)]; simp only
              rw [(name_cut hc).1 _ _ h2 (by omega)]; simp only
              rw [(must_cut hc (by omega)).1 _ h3 (by omega) (by omega)]; simp only
              rw [(num_cut hc).1 _ _ h4 (by omega)]; simp only
              rw [(must_cut hc (by omega)).2 hx]
            · cases h
theorem atom_end : atomP (t.take c) c = .error (c, 3) := by
  unfold atomP
  rw [cut_end hc, if_neg (by simp), if_neg (by simp), if_neg (by decide)]
  unfold varP nameP
  rw [cut_end hc]; rfl
theorem atom_cut {i : Nat} (hi : At t i) : (∀ e j, atomP t i = .ok (e, j) → i < c → j ≤ c → atomP (t.take c) i = .ok (e, j)) ∧ (∀ x, atomP t i = .error x → i < c → x.1 = c → atomP (t.take c) i = .error (c, 3)) := by
  constructor
  · intro e j h hlt hj
    unfold atomP at h ⊢
    rw [cut_word hc hlt, (cut_nxt hc hlt).2]
    split
    · rename_i hw; rw [if_pos hw] at h; exact h
    · rename_i hw; rw [if_neg hw] at h
      split
      · rename_i hw; rw [if_pos hw] at h; exact h
      · rename_i hw; rw [if_neg hw] at h
        split
        · rename_i hw; rw [if_pos hw] at h
          exact (pow_cut hc (at_nxt t i) (cut_nxt hc hlt).1).1 _ _ h hj
        · rename_i hw; rw [if_neg hw] at h
          unfold varP at h ⊢
          split at h
          · cases h
          · rename_i s k hk; cases h
            rw [(name_cut hc).1 _ _ hk hlt]
  · intro x h hlt hx
    unfold atomP at h ⊢
    rw [cut_word hc hlt, (cut_nxt hc hlt).2]
    split
    · rename_i hw; rw [if_pos hw] at h; cases h
    · rename_i hw; rw [if_neg hw] at h
      split
      · rename_i hw; rw [if_pos hw] at h; cases h
      · rename_i hw; rw [if_neg hw] at h
        split
        · rename_i hw; rw [if_pos hw] at h
          exact (pow_cut hc (at_nxt t i) (cut_nxt hc hlt).1).2 _ h hx
        · rename_i hw; rw [if_neg hw] at h
          unfold varP at h
          split at h
          · rename_i hk; cases h
            have e := (nameP_er hk).1; subst e
            simp only at hx; omega
          · cases h
theorem Rs.cut {k : Kd} {i : Nat} {o : Pos (List Nd)} (h : Rs t k i o) : k.ok → At t i → i ≤ c → CutR t c k i o := by
  induction h with
  | @levE r i x h h1 ih =>
    intro hk hi hic hx
    have hk : r ≤ 3 := hk
    obtain ⟨o', h2, h3⟩ := ih (show r + 1 ≤ 3 by omega) hi hic hx
    rcases h3 with e | ⟨e, he⟩
    · subst e; exact ⟨_, .levE h h2, .inl rfl⟩
    · subst he
      exact ⟨_, .levO h h2 (.bin0 (by rw [cut_end hc]; exact opOf_nil r)), .inr ⟨e, rfl⟩⟩
  | @raiE i x h1 ih =>
    intro hk hi hic hx
    obtain ⟨o', h2, h3⟩ := ih trivial hi hic hx
    rcases h3 with e | ⟨e, he⟩
    · subst e; exact ⟨_, .raiE h2, .inl rfl⟩
    · subst he
      exact ⟨_, .raiO h2 (.rai0 (by rw [cut_end hc]; simp)), .inr ⟨e, rfl⟩⟩
  | @levO r i e j o h h1 h2 ih1 ih2 =>
    intro hk hi hic
    have hk : r ≤ 3 := hk
    have g := h1.goes hi
    have g2 := h2.goes g.1
    cases o with
    | error x =>
      intro hx
      have hj : j ≤ c := by have := g2.1; omega
      obtain ⟨o', q2, q3⟩ := ih2 h g.1 hj hx
      exact ⟨o', .levO h (ih1 (show r + 1 ≤ 3 by omega) hi hic hj) q2, q3⟩
    | ok p =>
      obtain ⟨e2, j2⟩ := p
      intro hj2
      have hj : j ≤ c := by have := g2.2.1; omega
      exact .levO h (ih1 (show r + 1 ≤ 3 by omega) hi hic hj) (ih2 h g.1 hj hj2)
  | @raiO i e j o h1 h2 ih1 ih2 =>
    intro hk hi hic
    have g := h1.goes hi
    have g2 := h2.goes g.1
    cases o with
    | error x =>
      intro hx
      have hj : j ≤ c := by have := g2.1; omega
      obtain ⟨o', q2, q3⟩ := ih2 trivial g.1 hj hx
      exact ⟨o', .raiO (ih1 trivial hi hic hj) q2, q3⟩
    | ok p =>
      obtain ⟨e2, j2⟩ := p
      intro hj2
      have hj : j ≤ c := by have := g2.2.1; omega
      exact .raiO (ih1 trivial hi hic hj) (ih2 trivial g.1 hj hj2)
  | @bin0 r e i h =>
    intro hk hi hic hj
    refine .bin0 ?_
    by_cases hlt : i < c
    · rw [cut_word hc hlt]; exact h
    · have : i = c := by omega
      subst this
      rw [cut_end hc]; exact opOf_nil r
  | @rai0 e i h =>
    intro hk hi hic hj
    refine .rai0 ?_
    by_cases hlt : i < c
    · rw [cut_word hc hlt]; exact h
    · have : i = c := by omega
      subst this
      rw [cut_end hc]; simp
  | @binE r e i op x h h1 ih =>
    intro hk hi hic hx
    have hk : r < 3 := hk
    by_cases hlt : i < c
    · have hn := cut_nxt hc hlt
      have hw : opOf r (word (t.take c) i) = some op := by rw [cut_word hc hlt]; exact h
      obtain ⟨o', q2, q3⟩ := ih (show r + 1 ≤ 3 by omega) (at_nxt t i) hn.1 hx
      rcases q3 with q | ⟨e2, q⟩
      · subst q; exact ⟨_, .binE hw (by rw [hn.2]; exact q2), .inl rfl⟩
      · subst q
        exact ⟨_, .binO hw (by rw [hn.2]; exact q2) (.bin0 (by rw [cut_end hc]; exact opOf_nil r)), .inr ⟨_, rfl⟩⟩
    · have : i = c := by omega
      subst this
      exact ⟨_, .bin0 (by rw [cut_end hc]; exact opOf_nil r), .inr ⟨e, rfl⟩⟩
  | @binO r e i op e' j o h h1 h2 ih1 ih2 =>
    intro hk hi hic
    have hk : r < 3 := hk
    have hl := nxt_gt (opOf_lt h)
    have g := h1.goes (at_nxt t i)
    have g2 := h2.goes g.1
    cases o with
    | error x =>
      intro hx
      have hj : j ≤ c := by have := g2.1; omega
      have hlt : i < c := by have := g.2.1; omega
      have hn := cut_nxt hc hlt
      have hw : opOf r (word (t.take c) i) = some op := by rw [cut_word hc hlt]; exact h
      obtain ⟨o', q2, q3⟩ := ih2 hk g.1 hj hx
      exact ⟨o', .binO hw (by rw [hn.2]; exact ih1 (show r + 1 ≤ 3 by omega) (at_nxt t i) hn.1 hj) q2, q3⟩
    | ok p =>
      obtain ⟨e2, j2⟩ := p
      intro hj2
      have hj : j ≤ c := by have := g2.2.1; omega
      have hlt : i < c := by have := g.2.1; omega
      have hn := cut_nxt hc hlt
      have hw : opOf r (word (t.take c) i) = some op := by rw [cut_word hc hlt]; exact h
      exact .binO hw (by rw [hn.2]; exact ih1 (show r + 1 ≤ 3 by omega) (at_nxt t i) hn.1 hj) (ih2 hk g.1 hj hj2)
  | @raiX e i x h h1 =>
    intro hk hi hic hx
    by_cases hlt : i < c
    · have hn := cut_nxt hc hlt
      have ex : x.1 = nxt t i := by rcases numP_er h1 with q | q <;> rw [q]
      exact ⟨_, .raiX (by rw [cut_word hc hlt]; exact h) (by rw [hn.2]; exact (num_cut hc).2 (by omega)), .inl rfl⟩
    · have : i = c := by omega
      subst this
      exact ⟨_, .rai0 (by rw [cut_end hc]; simp), .inr ⟨e, rfl⟩⟩
  | @raiN e i n j o h h1 h2 ih =>
    intro hk hi hic
    have hl := nxt_gt (lt_of_word (t := t) (i := i) (by rw [h]; simp))
    have a := numP_ok h1
    have g2 := h2.goes a.1
    cases o with
    | error x =>
      intro hx
      have hj : j ≤ c := by have := g2.1; omega
      have hlt : i < c := by omega
      have hn := cut_nxt hc hlt
      obtain ⟨o', q2, q3⟩ := ih trivial a.1 hj hx
      exact ⟨o', .raiN (by rw [cut_word hc hlt]; exact h) (by rw [hn.2]; exact (num_cut hc).1 _ _ h1 (by omega)) q2, q3⟩
    | ok p =>
      obtain ⟨e2, j2⟩ := p
      intro hj2
      have hj : j ≤ c := by have := g2.2.1; omega
      have hlt : i < c := by omega
      have hn := cut_nxt hc hlt
      exact .raiN (by rw [cut_word hc hlt]; exact h) (by rw [hn.2]; exact (num_cut hc).1 _ _ h1 (by omega)) (ih trivial a.1 hj hj2)
  | @atom i h =>
    intro hk hi hic
    cases ha : atomP t i with
    | error x =>
      intro hx
      by_cases hlt : i < c
      · have e := (atom_cut hc hi).2 _ ha hlt hx
        exact ⟨_, by rw [← e]; exact .atom (by rw [cut_word hc hlt]; exact h), .inl rfl⟩
      · have : i = c := by omega
        subst this
        exact ⟨_, by rw [← atom_end hc]; exact .atom (by rw [cut_end hc]; simp), .inl rfl⟩
    | ok p =>
      obtain ⟨e, j⟩ := p
      intro hj
      have := atomP_ok ha
      have e := (atom_cut hc hi).1 _ _ ha (by omega) hj
      rw [← e]
      exact .atom (by rw [cut_word hc (by omega)]; exact h)
  | @brE i x h h1 ih =>
    intro hk hi hic hx
    by_cases hlt : i < c
    · have hn := cut_nxt hc hlt
      have hw : word (t.take c) i = [40] := by rw [cut_word hc hlt]; exact h
      obtain ⟨o', q2, q3⟩ := ih (show 0 ≤ 3 by omega) (at_nxt t i) hn.1 hx
      rcases q3 with q | ⟨e2, q⟩
      · subst q; exact ⟨_, .brE hw (by rw [hn.2]; exact q2), .inl rfl⟩
      · subst q
        exact ⟨_, .brX hw (by rw [hn.2]; exact q2) ((must_cut hc (Nat.le_refl _)).2 rfl), .inl rfl⟩
    · have : i = c := by omega
      subst this
      exact ⟨_, by rw [← atom_end hc]; exact .atom (by rw [cut_end hc]; simp), .inl rfl⟩
  | @brX i e j x h h1 h2 ih =>
    intro hk hi hic hx
    have hl := nxt_gt (lt_of_word (t := t) (i := i) (by rw [h]; simp))
    have g := h1.goes (at_nxt t i)
    have ex := (mustP_er h2).1
    subst ex
    simp only at hx
    have hlt : i < c := by have := g.2.1; omega
    have hn := cut_nxt hc hlt
    have hw : word (t.take c) i = [40] := by rw [cut_word hc hlt]; exact h
    have q2 := ih (show 0 ≤ 3 by omega) (at_nxt t i) hn.1 (by omega)
    exact ⟨_, .brX hw (by rw [hn.2]; exact q2) ((must_cut hc (by omega)).2 hx), .inl rfl⟩
  | @brO i e j k h h1 h2 ih =>
    intro hk hi hic hj
    have hl := nxt_gt (lt_of_word (t := t) (i := i) (by rw [h]; simp))
    have g := h1.goes (at_nxt t i)
    have b := mustP_ok h2
    have hlt : i < c := by have := g.2.1; omega
    have hn := cut_nxt hc hlt
    have hw : word (t.take c) i = [40] := by rw [cut_word hc hlt]; exact h
    have q2 := ih (show 0 ≤ 3 by omega) (at_nxt t i) hn.1 (by omega)
    exact .brO hw (by rw [hn.2]; exact q2) ((must_cut hc (by omega)).1 _ h2 hj (by omega))
end
end Go.Vw

/-
  The same reading with lists cut behind 65 nodes: what the program does. Conditions: none.
-/
namespace Go.Vw

inductive Rc (t : List UInt8) : Kd → Nat → Pos (List Nd) → Prop where
  | levE {r i x} (h : r < 3) (h1 : Rc t (.lev (r + 1)) i (.error x)) : Rc t (.lev r) i (.error x)
  | levO {r i e j o} (h : r < 3) (h1 : Rc t (.lev (r + 1)) i (.ok (e, j))) (h2 : Rc t (.bin r e) j o) : Rc t (.lev r) i o
  | raiE {i x} (h1 : Rc t .pri i (.error x)) : Rc t (.lev 3) i (.error x)
  | raiO {i e j o} (h1 : Rc t .pri i (.ok (e, j))) (h2 : Rc t (.rai e) j o) : Rc t (.lev 3) i o
  | bin0 {r e i} (h : opOf r (word t i) = none) : Rc t (.bin r e) i (.ok (e, i))
  | binE {r e i op x} (h : opOf r (word t i) = some op) (h1 : Rc t (.lev (r + 1)) (nxt t i) (.error x)) : Rc t (.bin r e) i (.error x)
  | binO {r e i op e' j o} (h : opOf r (word t i) = some op) (h1 : Rc t (.lev (r + 1)) (nxt t i) (.ok (e', j))) (h2 : Rc t (.bin r (((op, [], (0 : Int)) :: (e ++ e')).take 65)) j o) : Rc t (.bin r e) i o
  | rai0 {e i} (h : word t i ≠ [94]) : Rc t (.rai e) i (.ok (e, i))
  | raiX {e i x} (h : word t i = [94]) (h1 : numP t 1 6 (nxt t i) = .error x) : Rc t (.rai e) i (.error x)
  | raiN {e i n j o} (h : word t i = [94]) (h1 : numP t 1 6 (nxt t i) = .ok (n, j)) (h2 : Rc t (.rai (((10 : Int), [], (n : Int)) :: e)) j o) : Rc t (.rai e) i o
  | atom {i} (h : word t i ≠ [40]) : Rc t .pri i (atomP t i)
  | brE {i x} (h : word t i = [40]) (h1 : Rc t (.lev 0) (nxt t i) (.error x)) : Rc t .pri i (.error x)
  | brX {i e j x} (h : word t i = [40]) (h1 : Rc t (.lev 0) (nxt t i) (.ok (e, j))) (h2 : mustP t 41 j = .error x) : Rc t .pri i (.error x)
  | brO {i e j k} (h : word t i = [40]) (h1 : Rc t (.lev 0) (nxt t i) (.ok (e, j))) (h2 : mustP t 41 j = .ok k) : Rc t .pri i (.ok (e, k))

def GoesC (t : List UInt8) (k : Kd) (i : Nat) : Pos (List Nd) → Prop
  | .error x => ErrIn t i x
  | .ok (e, j) => At t j ∧ i ≤ j ∧ e.length ≤ k.pre + (j - i) ∧ 1 ≤ e.length ∧ (k.cons = true → i < j)
theorem Rc.goes {t : List UInt8} {k : Kd} {i : Nat} {o : Pos (List Nd)} (h : Rc t k i o) : At t i → 1 ≤ k.pre ∨ k.cons = true → GoesC t k i o := by
  have key : ∀ {k : Kd} {i : Nat} {o : Pos (List Nd)}, Rc t k i o → At t i → (1 ≤ k.pre ∨ k.cons = true) → (∀ x, o = .error x → ErrIn t i x) ∧ (∀ e j, o = .ok (e, j) → At t j ∧ i ≤ j ∧ e.length ≤ k.pre + (j - i) ∧ 1 ≤ e.length ∧ (k.cons = true → i < j)) := by
    intro k i o h
    induction h with
    | levE h h1 ih => exact fun hi _ => ⟨fun x hx => (ih hi (.inr rfl)).1 x hx, fun e j h => by cases h⟩
    | raiE h1 ih => exact fun hi _ => ⟨fun x hx => (ih hi (.inr rfl)).1 x hx, fun e j h => by cases h⟩
    | @levO r i e j o h h1 h2 ih1 ih2 =>
      intro hi _
      obtain ⟨a1, a2, a3, a4, a5⟩ := (ih1 hi (.inr rfl)).2 _ _ rfl
      have b := ih2 a1 (.inl a4)
      have a5 := a5 rfl
      refine ⟨fun x hx => (b.1 x hx).mono a2, fun e2 k he => ?_⟩
      obtain ⟨b1, b2, b3, b4, b5⟩ := b.2 _ _ he
      simp only [Kd.pre] at a3 b3 ⊢
      exact ⟨b1, by omega, by omega, b4, fun _ => by omega⟩
    | @raiO i e j o h1 h2 ih1 ih2 =>
      intro hi _
      obtain ⟨a1, a2, a3, a4, a5⟩ := (ih1 hi (.inr rfl)).2 _ _ rfl
      have b := ih2 a1 (.inl a4)
      have a5 := a5 rfl
      refine ⟨fun x hx => (b.1 x hx).mono a2, fun e2 k he => ?_⟩
      obtain ⟨b1, b2, b3, b4, b5⟩ := b.2 _ _ he
      simp only [Kd.pre] at a3 b3 ⊢
      exact ⟨b1, by omega, by omega, b4, fun _ => by omega⟩
    | bin0 h =>
      intro hi hp
      refine ⟨fun x hx => by (cases hx), fun e j he => ?_⟩
      cases he
      exact ⟨hi, Nat.le_refl _, by simp [Kd.pre], hp.resolve_right (by simp [Kd.cons]), fun h => by cases h⟩
    | rai0 h =>
      intro hi hp
      refine ⟨fun x hx => by (cases hx), fun e j he => ?_⟩
      cases he
      exact ⟨hi, Nat.le_refl _, by simp [Kd.pre], hp.resolve_right (by simp [Kd.cons]), fun h => by cases h⟩
    | @binE r e i op x h h1 ih => exact fun hi _ => ⟨fun y hy => ((ih (at_nxt t i) (.inr rfl)).1 y hy).mono (nxt_ge hi.le), fun e j h => by cases h⟩
    | @binO r e i op e' j o h h1 h2 ih1 ih2 =>
      intro hi hp
      have h0 := nxt_gt (opOf_lt h)
      obtain ⟨a1, a2, a3, a4, a5⟩ := (ih1 (at_nxt t i) (.inr rfl)).2 _ _ rfl
      have b := ih2 a1 (.inl (by simp only [Kd.pre, List.length_take, List.length_cons]; omega))
      refine ⟨fun x hx => (b.1 x hx).mono (by omega), fun e2 k he => ?_⟩
      obtain ⟨b1, b2, b3, b4, b5⟩ := b.2 _ _ he
      simp only [Kd.pre, List.length_take, List.length_cons, List.length_append] at a3 b3 ⊢
      exact ⟨b1, by omega, by omega, b4, fun h => by cases h⟩
    | @raiX e i x h h1 =>
      intro hi _
      refine ⟨fun y hy => ?_, fun e j h => by cases h⟩
      cases hy
      rcases numP_er h1 with q | q <;> subst q <;> exact ((at_nxt t i).err (by simp)).mono (nxt_ge hi.le)
    | @raiN e i n j o h h1 h2 ih =>
      intro hi hp
      have h0 := nxt_gt (lt_of_word (t := t) (i := i) (by rw [h]; simp))
      have a := numP_ok h1
      have b := ih a.1 (.inl (by simp [Kd.pre]))
      refine ⟨fun x hx => (b.1 x hx).mono (by omega), fun e2 k he => ?_⟩
      obtain ⟨b1, b2, b3, b4, b5⟩ := b.2 _ _ he
      simp only [Kd.pre, List.length_cons] at b3 ⊢
      exact ⟨b1, by omega, by omega, b4, fun h => by cases h⟩
    | @atom i h =>
      intro hi _
      refine ⟨fun x hx => atomP_er hi hx, fun e j he => ?_⟩
      have := atomP_ok he
      exact ⟨this.1, by omega, by simp only [Kd.pre]; omega, by omega, fun _ => by omega⟩
    | @brE i x h h1 ih => exact fun hi _ => ⟨fun y hy => ((ih (at_nxt t i) (.inr rfl)).1 y hy).mono (nxt_ge hi.le), fun e j h => by cases h⟩
    | @brX i e j x h h1 h2 ih =>
      intro hi _
      obtain ⟨a1, a2, a3, a4, a5⟩ := (ih (at_nxt t i) (.inr rfl)).2 _ _ rfl
      refine ⟨fun y hy => ?_, fun e j h => by cases h⟩
      cases hy
      have := (mustP_er h2).1
      subst this
      exact (a1.err (.inl rfl)).mono (Nat.le_trans (nxt_ge hi.le) a2)
    | @brO i e j k h h1 h2 ih =>
      intro hi _
      obtain ⟨a1, a2, a3, a4, a5⟩ := (ih (at_nxt t i) (.inr rfl)).2 _ _ rfl
      have b := mustP_ok h2
      have c := nxt_ge (t := t) hi.le
      have a5 := a5 rfl
      refine ⟨fun x hx => by (cases hx), fun e2 j2 he => ?_⟩
      cases he
      simp only [Kd.pre] at a3 ⊢
      exact ⟨b.1, by omega, by omega, a4, fun _ => by omega⟩
  intro hi hp
  have := key h hi hp
  cases o with
  | error x => exact this.1 x rfl
  | ok p => exact this.2 p.1 p.2 rfl

def SimL (e e' : List Nd) : Prop := e' = e ∨ (64 < e'.length ∧ e'.length ≤ e.length)
theorem SimL.refl (e : List Nd) : SimL e e := .inl rfl
theorem SimL.bin {a a' b b' : List Nd} (n : Nd) (ha : SimL a a') (hb : SimL b b') : SimL (n :: (a ++ b)) ((n :: (a' ++ b')).take 65) := by
  by_cases h : (n :: (a' ++ b')).length ≤ 65
  · rw [List.take_of_length_le h]
    rcases ha with rfl | ha
    · rcases hb with rfl | hb
      · exact .inl rfl
      · exfalso; simp at h; omega
    · exfalso; simp at h; omega
  · refine .inr ?_
    have : a'.length + b'.length ≤ a.length + b.length := by
      rcases ha with rfl | ha <;> rcases hb with rfl | hb <;> omega
    simp at h ⊢; omega
theorem SimL.cons {a a' : List Nd} (n : Nd) (ha : SimL a a') : SimL (n :: a) (n :: a') := by
  rcases ha with rfl | ha
  · exact .inl rfl
  · exact .inr (by simp; omega)
/-! ## The sign of an operation, found one by one -/
end Go.Vw

/-
  Bytes by their numbers; nodes as data. Conditions: none.
-/
namespace Go.Vw
abbrev bD (c : UInt8) : D := .int .u8 (c.toNat : Int)
@[reducible] def ndC (n : Nd) : List D := [.int .i64 n.1, .str n.2.1, .int .i64 n.2.2]
abbrev nd0 : Nd := ((0 : Int), [], (0 : Int))
abbrev ndsD (l : List Nd) : D := .sl 3 ndC nd0 l
theorem isLet_nat (c : UInt8) : isLet c = (decide ((97 : Int) ≤ (c.toNat : Int)) && decide ((c.toNat : Int) ≤ 122) || (decide ((65 : Int) ≤ (c.toNat : Int)) && decide ((c.toNat : Int) ≤ 90))) := by
  unfold isLet
  simp only [UInt8.le_iff_toNat_le]
  congr 2 <;> apply decide_eq_decide.2 <;> simp <;> omega
theorem isDig_nat (c : UInt8) : isDig c = (decide ((48 : Int) ≤ (c.toNat : Int)) && decide ((c.toNat : Int) ≤ 57)) := by
  unfold isDig
  simp only [UInt8.le_iff_toNat_le]
  congr 1 <;> apply decide_eq_decide.2 <;> simp <;> omega
theorem u8_eq (c d : UInt8) : (c = d) ↔ ((c.toNat : Int) = (d.toNat : Int)) := by
  rw [Int.ofNat_inj]; exact UInt8.toNat_inj.symm
theorem isInn_nat (c : UInt8) : isInn c = (isLet c || isDig c || decide ((c.toNat : Int) = 95) || decide ((c.toNat : Int) = 46)) := by
  unfold isInn
  congr 1
  · congr 1
    rw [show (95 : Int) = ((95 : UInt8).toNat : Int) from rfl]
    rw [Bool.eq_iff_iff, beq_iff_eq, decide_eq_true_eq]; exact u8_eq c 95
  · rw [show (46 : Int) = ((46 : UInt8).toNat : Int) from rfl]
    rw [Bool.eq_iff_iff, beq_iff_eq, decide_eq_true_eq]; exact u8_eq c 46
theorem isBl_nat (c : UInt8) : isBl c = decide ((c.toNat : Int) = 32) := by
  unfold isBl
  rw [show (32 : Int) = ((32 : UInt8).toNat : Int) from rfl, Bool.eq_iff_iff, beq_iff_eq, decide_eq_true_eq]; exact u8_eq c 32
theorem u8_rng (c : UInt8) : (c.toNat : Int) < 256 := by have := c.toNat_lt; omega
end Go.Vw
namespace Go.Vw
theorem all_run (p : UInt8 → Bool) (s : List UInt8) : s.all p = decide (runE p s 0 = s.length) := by
  rw [Bool.eq_iff_iff, decide_eq_true_eq, List.all_eq_true]
  constructor
  · intro h
    exact runE_eq (Nat.zero_le _) (Nat.le_refl _) (fun k _ hk => by
      rw [List.getD_eq_getElem?_getD, List.getElem?_eq_getElem hk]
      exact h _ (List.getElem_mem hk)) (fun h => by omega)
  · intro h x hx
    obtain ⟨k, hk, rfl⟩ := List.getElem_of_mem hx
    have := runE_in p (t := s) (i := 0) (j := k) (Nat.zero_le _) (by omega)
    rwa [List.getD_eq_getElem?_getD, List.getElem?_eq_getElem hk] at this
theorem name_bad {s : List UInt8} (h : s = [] ∨ 32 < s.length ∨ isLet (s.getD 0 0) = false ∨ s = pwB) : isName s = false := by
  unfold isName
  rcases h with h | h | h | h
  · subst h; rfl
  · have : decide (s.length ≤ 32) = false := decide_eq_false (by omega)
    simp [this]
  · rw [h]; simp
  · subst h; decide
theorem name_good {s : List UInt8} (h1 : s ≠ []) (h2 : s.length ≤ 32) (h3 : isLet (s.getD 0 0) = true) (h4 : s ≠ pwB) : isName s = decide (runE isInn s 0 = s.length) := by
  unfold isName
  have e1 : 1 ≤ s.length := List.length_pos_iff.2 h1
  rw [all_run, h3, decide_eq_true e1, decide_eq_true h2, beq_eq_false_iff_ne.2 h4]; simp
end Go.Vw

/-
  The reference's reader: bytes at places. Conditions: none.
-/
namespace Go.Vw

def sgI (t : List UInt8) (i : Nat) : Int := if i < t.length then ((t.getD i 0).toNat : Int) else 0
theorem skp_big {t : List UInt8} {a : Nat} (h : t.length ≤ a) : skp t a = a := by
  unfold skp runE; rw [List.drop_eq_nil_of_le h]; rfl
theorem skp_skp (t : List UInt8) (a : Nat) : skp t (skp t a) = skp t a := by
  by_cases h : a ≤ t.length
  · exact runE_idem h
  · have := skp_big (t := t) (a := a) (by omega)
    rw [this, this]
theorem skp_ge (t : List UInt8) (a : Nat) : a ≤ skp t a := runE_ge _ _ _
theorem skp_max (t : List UInt8) (a : Nat) : skp t a ≤ max a t.length := by
  by_cases h : a ≤ t.length
  · have := runE_le isBl h; unfold skp; omega
  · rw [skp_big (by omega)]; omega
theorem sgI_lt {t : List UInt8} {i : Nat} {c : Int} (h : sgI t i = c) (hc : c ≠ 0) : i < t.length := by
  unfold sgI at h
  split at h
  · assumption
  · omega
theorem word_sg {t : List UInt8} {i : Nat} {c : UInt8} (h1 : isLet c = false) (h2 : isDig c = false) (h0 : c ≠ 0) : word t i = [c] ↔ sgI t i = (c.toNat : Int) := by
  constructor
  · intro h
    have hlt := lt_of_word (t := t) (i := i) (by rw [h]; simp)
    unfold sgI
    rw [if_pos hlt]
    have : (word t i).getD 0 0 = t.getD i 0 := by
      unfold word
      have := wend_gt hlt
      simp only [List.getD_eq_getElem?_getD, List.getElem?_take, List.getElem?_drop, Nat.add_zero]
      rw [if_pos (by omega)]
    rw [h] at this
    rw [← this]; rfl
  · intro h
    have hlt := sgI_lt h (by
      intro e
      apply h0
      have : c.toNat = (0 : UInt8).toNat := by have : (c.toNat : Int) = ((0 : UInt8).toNat : Int) := e; omega
      exact UInt8.toNat_inj.1 this)
    unfold sgI at h
    rw [if_pos hlt] at h
    have e := (u8_eq _ _).2 h
    have hd : t.drop i = c :: t.drop (i + 1) := by
      rw [List.drop_eq_getElem_cons hlt]
      congr 1
      rw [← e, List.getD_eq_getElem?_getD, List.getElem?_eq_getElem hlt]; rfl
    exact (word_sign hd h1 h2).1
theorem sg_nxt {t : List UInt8} {i : Nat} {c : UInt8} (h1 : isLet c = false) (h2 : isDig c = false) (h : word t i = [c]) : nxt t i = skp t (i + 1) := by
  have hlt := lt_of_word (t := t) (i := i) (by rw [h]; simp)
  have hw : wend t i = i + 1 := by
    have : (word t i).getD 0 0 = t.getD i 0 := by
      unfold word
      have := wend_gt hlt
      simp only [List.getD_eq_getElem?_getD, List.getElem?_take, List.getElem?_drop, Nat.add_zero]
      rw [if_pos (by omega)]
    rw [h] at this
    have : t.getD i 0 = c := this.symm
    unfold wend
    rw [if_pos hlt, this, h1, h2]; rfl
  unfold nxt; rw [hw]
def wordR (t : List UInt8) (i : Nat) : List UInt8 := if i < t.length ∧ isLet (t.getD i 0) = true then word t i else []
theorem wend_let {t : List UInt8} {i : Nat} (h : i < t.length) (hl : isLet (t.getD i 0) = true) : wend t i = runE isInn t i := by
  unfold wend; rw [if_pos h, if_pos hl]
theorem word_head {t : List UInt8} {i : Nat} (h : i < t.length) : (word t i).getD 0 0 = t.getD i 0 := by
  unfold word
  have := wend_gt h
  simp only [List.getD_eq_getElem?_getD, List.getElem?_take, List.getElem?_drop, Nat.add_zero]
  rw [if_pos (by omega)]
theorem wordR_name (t : List UInt8) (i : Nat) : isName (wordR t i) = isName (word t i) ∧ (isName (word t i) = true → wordR t i = word t i) := by
  unfold wordR
  split
  · exact ⟨rfl, fun _ => rfl⟩
  · rename_i h
    have key : isName (word t i) = false := by
      by_cases hi : i < t.length
      · have hl : isLet (t.getD i 0) = false := Bool.eq_false_iff.2 fun e => h ⟨hi, e⟩
        exact name_bad (.inr (.inr (.inl (by rw [word_head hi]; exact hl))))
      · refine name_bad (.inl ?_)
        unfold word; rw [List.drop_eq_nil_of_le (by omega)]; simp
    rw [key]
    exact ⟨rfl, fun h => by cases h⟩
theorem wordR_pw (t : List UInt8) (i : Nat) : wordR t i = pwB ↔ word t i = pwB := by
  unfold wordR
  split
  · exact Iff.rfl
  · rename_i h
    constructor
    · intro e; exact absurd e (by decide)
    · intro e
      exfalso; apply h
      have hi := lt_of_word (t := t) (i := i) (by rw [e]; decide)
      refine ⟨hi, ?_⟩
      rw [← word_head hi, e]; decide
theorem word_len {t : List UInt8} {i : Nat} (h : i ≤ t.length) : (word t i).length = wend t i - i := by
  have := wend_le t i
  unfold word; simp; omega
theorem digP_eq (t : List UInt8) (i : Nat) : digP t i = if i < t.length ∧ isDig (t.getD i 0) = true ∧ ¬ (i + 1 < t.length ∧ isDig (t.getD (i + 1) 0) = true) then some ((t.getD i 0).toNat - 48) else none := by
  unfold digP
  by_cases hi : i < t.length
  · rw [word_head hi]
    by_cases hd : isDig (t.getD i 0) = true
    · have hl : isLet (t.getD i 0) = false := by
        rw [isDig_nat] at hd
        rw [isLet_nat]
        simp only [Bool.and_eq_true, decide_eq_true_eq] at hd
        have := u8_rng (t.getD i 0)
        simp only [Bool.or_eq_false_iff, Bool.and_eq_false_iff, decide_eq_false_iff_not]; omega
      have hw : wend t i = runE isDig t i := by unfold wend; rw [if_pos hi, hl, hd]; rfl
      have h1 := runE_step hi hd
      have hlen := word_len (t := t) (i := i) (by omega)
      rw [hw, ← h1] at hlen
      by_cases hn : i + 1 < t.length ∧ isDig (t.getD (i + 1) 0) = true
      · have h2 := runE_step hn.1 hn.2
        have h3 := runE_ge isDig t (i + 1 + 1)
        rw [if_neg (by rw [hlen]; omega), if_neg (fun h => h.2.2 hn)]
      · have h2 : runE isDig t (i + 1) = i + 1 := runE_self (by omega) (fun h => by
          cases hq : isDig (t.getD (i + 1) 0) with
          | false => rfl
          | true => exact absurd ⟨h, hq⟩ hn)
        rw [if_pos ⟨by rw [hlen, h2]; omega, hd⟩, if_pos ⟨hi, hd, hn⟩]
    · rw [if_neg (fun h => hd h.2), if_neg (fun h => hd h.2.1)]
  · have : word t i = [] := by unfold word; rw [List.drop_eq_nil_of_le (by omega)]; simp
    rw [this, if_neg (by simp), if_neg (fun h => hi h.1)]
theorem dig_nxt {t : List UInt8} {i n : Nat} (h : digP t i = some n) : nxt t i = skp t (i + 1) := by
  have hlt := (digP_lt h).1
  unfold digP at h
  split at h
  · rename_i hw
    have := word_len (t := t) (i := i) (by omega)
    have hg := wend_gt hlt
    unfold nxt
    congr 1; omega
  · cases h
end Go.Vw

/-
  Signs of operations and single digits, by bytes. Conditions: none.
-/
namespace Go.Vw
def lvI (r : Int) (v : Int) : Int := if r = 1 ∧ v = 43 then 5 else if r = 1 ∧ v = 45 then 6 else if r = 2 ∧ v = 42 then 8 else if r = 2 ∧ v = 47 then 9 else if r = 3 ∧ v = 58 then 7 else 0
theorem lvI_op {t : List UInt8} {i r : Nat} (hr : r < 3) : lvI ((r : Int) + 1) (sgI t i) = (opOf r (word t i)).getD 0 := by
  have e43 : word t i = [43] ↔ sgI t i = 43 := word_sg (by decide) (by decide) (by decide)
  have e45 : word t i = [45] ↔ sgI t i = 45 := word_sg (by decide) (by decide) (by decide)
  have e42 : word t i = [42] ↔ sgI t i = 42 := word_sg (by decide) (by decide) (by decide)
  have e47 : word t i = [47] ↔ sgI t i = 47 := word_sg (by decide) (by decide) (by decide)
  have e58 : word t i = [58] ↔ sgI t i = 58 := word_sg (by decide) (by decide) (by decide)
  generalize sgI t i = v at *
  unfold lvI opOf
  simp only [e43, e45, e42, e47, e58]
  have : r = 0 ∨ r = 1 ∨ r = 2 := by omega
  rcases this with h | h | h <;> subst h
  · by_cases h1 : v = 43
    · subst h1; rfl
    · by_cases h2 : v = 45
      · subst h2; rfl
      · simp [h1, h2]
  · by_cases h1 : v = 42
    · subst h1; rfl
    · by_cases h2 : v = 47
      · subst h2; rfl
      · simp [h1, h2]
  · by_cases h1 : v = 58
    · subst h1; rfl
    · simp [h1]
theorem word_one {t : List UInt8} {i n : Nat} (h : digP t i = some n) : word t i = [UInt8.ofNat (48 + n)] ∧ n ≤ 9 := by
  have hb := (digP_lt h).2
  unfold digP at h
  split at h
  · rename_i hw
    obtain ⟨c, hc⟩ := List.length_eq_one_iff.1 hw.1
    rw [hc] at h hw ⊢
    simp only [Option.some.injEq] at h
    refine ⟨?_, hb⟩
    have hd := hw.2
    rw [isDig_nat] at hd
    simp only [Bool.and_eq_true, decide_eq_true_eq] at hd
    have h1 : ([c] : List UInt8).getD 0 0 = c := rfl
    rw [h1] at h hd
    congr 1
    apply UInt8.toNat_inj.1
    rw [UInt8.toNat_ofNat']
    have := u8_rng c
    omega
  · cases h
theorem word_d0 (t : List UInt8) (i : Nat) : word t i = [48] ↔ digP t i = some 0 := by
  constructor
  · intro h; unfold digP; rw [h]; rfl
  · intro h; exact (word_one h).1
theorem word_d1 (t : List UInt8) (i : Nat) : word t i = [49] ↔ digP t i = some 1 := by
  constructor
  · intro h; unfold digP; rw [h]; rfl
  · intro h; exact (word_one h).1
end Go.Vw

/-
  Valid right sides, by counting and by ends. Conditions: none.
-/
namespace Go.Vw
def opI (n : Nd) : Int := if leafB? n then 0 else if n.1 = 10 ∧ n.2.1 = [] ∧ 1 ≤ n.2.2 ∧ n.2.2 ≤ 6 then 1 else if 5 ≤ n.1 ∧ n.1 ≤ 9 ∧ n.2.1 = [] ∧ n.2.2 = 0 then 2 else -1
theorem opI_none {n : Nd} (h : opnd n = none) : opI n = -1 := by
  unfold opnd at h
  unfold opI
  split at h
  · cases h
  · rename_i h1
    rw [if_neg h1]
    split at h
    · cases h
    · rename_i h2
      rw [if_neg h2]
      split at h
      · cases h
      · rename_i h3; rw [if_neg h3]
theorem opI_some {n : Nd} {a : Nat} (h : opnd n = some a) : opI n = a ∧ a ≤ 2 := by
  unfold opnd at h
  unfold opI
  split at h
  · rename_i h1; rw [if_pos h1]; cases h; exact ⟨rfl, by omega⟩
  · rename_i h1
    rw [if_neg h1]
    split at h
    · rename_i h2; rw [if_pos h2]; cases h; exact ⟨rfl, by omega⟩
    · rename_i h2
      rw [if_neg h2]
      split at h
      · rename_i h3; rw [if_pos h3]; cases h; exact ⟨rfl, by omega⟩
      · cases h
def nodeB (n : Nd) : Bool := if n.1 = 1 then isName n.2.1 && decide (n.2.2 = 0) else if n.1 = 2 then isName n.2.1 && (decide (2 ≤ n.2.2) && decide (n.2.2 ≤ 8)) else if n.1 = 10 then decide (n.2.1 = []) && (decide (1 ≤ n.2.2) && decide (n.2.2 ≤ 6)) else decide (n.2.1 = []) && decide (n.2.2 = 0)
theorem opnd_node (n : Nd) : opnd n ≠ none ↔ 0 ≤ arity n.1 ∧ nodeB n = true := by
  obtain ⟨op, s, k⟩ := n
  unfold opnd nodeB arity
  by_cases h1 : op = 1
  · subst h1; simp [leafB?]
  by_cases h2 : op = 2
  · subst h2; simp [leafB?, and_assoc]
  by_cases h3 : op = 3
  · subst h3; simp [leafB?]
  by_cases h4 : op = 4
  · subst h4; simp [leafB?]
  by_cases h10 : op = 10
  · subst h10; simp [leafB?]
  have hl : leafB? (op, s, k) = false := by simp [leafB?, h1, h2, h3, h4]
  simp only [hl, h1, h2, h10]
  by_cases h5 : 5 ≤ op ∧ op ≤ 9
  · have : ¬ (1 ≤ op ∧ op ≤ 4) := by omega
    simp [h5, this]
  · have : ¬ (1 ≤ op ∧ op ≤ 4) := by omega
    simp [h5, this]
    intro a b; omega
theorem cnt_opnd : ∀ {l : List Nd} {k : Nat}, cnt l k = true → ∀ n ∈ l, opnd n ≠ none
  | [], _, _, n, hn => by cases hn
  | m :: l, k, h, n, hn => by
    simp only [cnt] at h
    split at h
    · rename_i a k2 ha
      rcases List.mem_cons.1 hn with q | q
      · subst q; rw [ha]; simp
      · exact cnt_opnd h n q
    · cases h
theorem endN_ar : ∀ {l : List Nd} {k : Nat}, endN l k = some l.length → ∀ n ∈ l, 0 ≤ arity n.1
  | [], _, h, n, hn => by cases hn
  | m :: l, k, h, n, hn => by
    simp only [endN] at h
    split at h
    · cases h
    · rename_i ha
      rcases List.mem_cons.1 hn with q | q
      · subst q; omega
      · split at h
        · simp only [List.length_cons, Option.some.injEq] at h
          have : l = [] := List.eq_nil_of_length_eq_zero (by omega)
          subst this; cases q
        · simp only [Option.map_eq_some_iff, List.length_cons] at h
          obtain ⟨x, h1, h2⟩ := h
          have : x = l.length := by omega
          subst this
          exact endN_ar h1 n q
theorem cnt_end (e : List Nd) : cnt e 1 = true ↔ (endN e 1 = some e.length ∧ ∀ n ∈ e, nodeB n = true) := by
  constructor
  · intro h
    have h1 := cnt_opnd h
    exact ⟨(endN_cnt h1 (Nat.le_refl _)).2 h, fun n hn => ((opnd_node n).1 (h1 n hn)).2⟩
  · rintro ⟨h1, h2⟩
    have h3 := endN_ar h1
    exact (endN_cnt (fun n hn => (opnd_node n).2 ⟨h3 n hn, h2 n hn⟩) (Nat.le_refl _)).1 h1
def vld (s : List UInt8) (e : List Nd) : Bool := isName s && (cnt e 1 && decide (e.length ≤ 64))
def endI (e : List Nd) (i w : Nat) : Int := match endN (e.drop i) w with | some n => (i : Int) + n | none => -1
theorem endI_neg {e : List Nd} {i w : Nat} {n : Nd} (h : e.drop i = n :: e.drop (i + 1)) (ha : arity n.1 < 0) : endI e i w = -1 := by
  unfold endI; rw [h]; simp only [endN]; rw [if_pos ha]
theorem endI_end {e : List Nd} {i w : Nat} {n : Nd} (h : e.drop i = n :: e.drop (i + 1)) (ha : 0 ≤ arity n.1) (hw : w + (arity n.1).toNat - 1 = 0) : endI e i w = (i : Int) + 1 := by
  unfold endI; rw [h]; simp only [endN]; rw [if_neg (by omega), hw]; rfl
theorem endI_step {e : List Nd} {i w : Nat} {n : Nd} (h : e.drop i = n :: e.drop (i + 1)) (ha : 0 ≤ arity n.1) (hw : w + (arity n.1).toNat - 1 ≠ 0) : endI e i w = endI e (i + 1) (w + (arity n.1).toNat - 1) := by
  unfold endI; rw [h]; simp only [endN]; rw [if_neg (by omega)]
  obtain ⟨j, hj⟩ := Nat.exists_eq_succ_of_ne_zero hw
  rw [hj]
  simp only [Nat.succ_eq_add_one]
  cases endN (e.drop (i + 1)) (j + 1) with
  | none => rfl
  | some m => simp only [Option.map_some]; omega
theorem endI_nil {e : List Nd} {i w : Nat} (h : e.length ≤ i) : endI e i w = -1 := by
  unfold endI; rw [List.drop_eq_nil_of_le h]; rfl
theorem arity_le (op : Int) : -1 ≤ arity op ∧ arity op ≤ 2 := by
  unfold arity; repeat' split
  all_goals omega
theorem endI_iff (e : List Nd) : endI e 0 1 = e.length ↔ endN e 1 = some e.length := by
  unfold endI
  rw [List.drop_zero]
  cases endN e 1 with
  | none => first | (simp; done) | (simp; omega)
  | some n => first | (simp; done) | (simp; omega)
end Go.Vw

/-
  Written trees: sizes. Conditions: none.
-/
namespace Go.Vw
theorem flat_ne (T : Ft) : 1 ≤ T.flat.length := by
  cases T <;> simp [Ft.flat]
theorem flat_head (T : Ft) {e l : List Nd} {a : Nat} (h : e.drop a = T.flat ++ l) : (e[a]?.getD nd0).1 = T.op ∧ a < e.length := by
  have h0 : e[a]? = (T.flat ++ l)[0]? := by rw [← h]; simp
  have hl : a < e.length := by
    have := congrArg List.length h
    have h1 := flat_ne T
    simp at this; omega
  refine ⟨?_, hl⟩
  rw [h0]
  cases T <;> simp [Ft.flat, Ft.op]
end Go.Vw

/-
  What an argument of a law holds, as a value of a plain type: whatever can be read of it, it stands for. Conditions: the type's shape is as its code says (a closed fact).
-/
namespace Go.Vw
open Go.RowKit Go.ChangeShapes Go.WideShapes

mutual
inductive Ty where
  | int (k : IntKind)
  | bool
  | str
  | struct (fs : Tys)
  | slice (e : Ty)
inductive Tys where
  | nil
  | cons (t : Ty) (ts : Tys)
end
mutual
def Ty.Val : Ty → Type
  | .int _ => Int
  | .bool => Bool
  | .str => List UInt8
  | .struct fs => fs.Val
  | .slice e => List e.Val
def Tys.Val : Tys → Type
  | .nil => Unit
  | .cons t ts => t.Val × ts.Val
end
mutual
def Ty.zero : (t : Ty) → t.Val
  | .int _ => (0 : Int)
  | .bool => false
  | .str => ([] : List UInt8)
  | .struct fs => fs.zero
  | .slice e => ([] : List e.Val)
def Tys.zero : (ts : Tys) → ts.Val
  | .nil => ()
  | .cons t ts => (t.zero, ts.zero)
end
mutual
def Ty.width : Ty → Nat
  | .int _ => 1
  | .bool => 1
  | .str => 1
  | .struct fs => fs.width
  | .slice _ => 1
def Tys.width : Tys → Nat
  | .nil => 0
  | .cons t ts => t.width + ts.width
end
mutual
def Ty.cells : (t : Ty) → t.Val → List D
  | .int k, (n : Int) => [.int k n]
  | .bool, (b : Bool) => [.bool b]
  | .str, (s : List UInt8) => [.str s]
  | .struct fs, v => fs.cells v
  | .slice e, (l : List e.Val) => [.sl e.width e.cells e.zero l]
def Tys.cells : (ts : Tys) → ts.Val → List D
  | .nil, _ => []
  | .cons t ts, v => t.cells v.1 ++ ts.cells v.2
end
mutual
def Ty.wf : (t : Ty) → t.Val → Prop
  | .int k, (n : Int) => (Lit.int k n).wf = true
  | .bool, _ => True
  | .str, (s : List UInt8) => s.length ≤ maxLen
  | .struct fs, v => fs.wf v
  | .slice e, (l : List e.Val) => l.length ≤ maxLen ∧ ∀ a ∈ l, e.wf a
def Tys.wf : (ts : Tys) → ts.Val → Prop
  | .nil, _ => True
  | .cons t ts, v => t.wf v.1 ∧ ts.wf v.2
end
mutual
def Ty.ok (P : Program) : Ty → TypeId → Bool
  | .int k, t => match P.underlying t with | some (.int k') => decide (k' = k) | _ => false
  | .bool, t => match P.underlying t with | some .bool => true | _ => false
  | .str, t => match P.underlying t with | some .string => true | _ => false
  | .struct fs, t => match P.underlying t with | some (.struct fields) => Nat.beq (P.cellsOf t) fs.width && Tys.ok P fs fields.toList 0 | _ => false
  | .slice e, t => match P.underlying t with | some (.slice te) => Nat.beq (P.cellsOf te) e.width && Nat.blt 0 e.width && Ty.ok P e te | _ => false
def Tys.ok (P : Program) : Tys → List Field → Nat → Bool
  | .nil, fs, _ => match fs with | [] => true | _ :: _ => false
  | .cons t ts, fs, off => match fs with
    | f :: fs => Nat.beq f.offset off && Nat.beq (P.cellsOf f.type) t.width && Ty.ok P t f.type && Tys.ok P ts fs (off + t.width)
    | [] => false
end
mutual
theorem Ty.cells_len : ∀ (t : Ty) (v : t.Val), (t.cells v).length = t.width
  | .int k, v => rfl
  | .bool, v => rfl
  | .str, v => rfl
  | .struct fs, v => by simp only [Ty.cells, Ty.width]; exact Tys.cells_len fs v
  | .slice e, v => rfl
theorem Tys.cells_len : ∀ (ts : Tys) (v : ts.Val), (ts.cells v).length = ts.width
  | .nil, v => rfl
  | .cons t ts, v => by simp only [Tys.cells, Tys.width, List.length_append]; rw [Ty.cells_len t v.1, Tys.cells_len ts v.2]
end

def allF (w : World) : Nat → Prop := fun b => b < w.heap.size
section
variable {H : Type} {enc : TypeId × Value → H} {P : Program} {w : World} {held : Bool}

theorem dra_one {F : Nat → Prop} {g : Nat → Option Value} {off : Nat} {x : D} {v : Value} (h0 : g off = some v) (h1 : v.oneCell' = true) (h : DR F w x v) : DRA F w g off [x] := by
  simp only [DRA]; exact ⟨⟨v, h0, h1, h⟩, trivial⟩
theorem dra_app {F : Nat → Prop} {g : Nat → Option Value} {xs ys : List D} {off : Nat} (h : DRA F w g off xs) (k : DRA F w g (off + xs.length) ys) : DRA F w g off (xs ++ ys) := by
  rw [DRA_iff] at h k ⊢
  intro i c hi
  by_cases hl : i < xs.length
  · rw [List.getElem?_append_left hl] at hi; exact h i c hi
  · rw [List.getElem?_append_right (by omega)] at hi
    obtain ⟨v, h1, h2⟩ := k _ c hi
    exact ⟨v, by rw [← h1]; congr 1; omega, h2⟩
theorem row_of_cells {a : Addr} {n : Nat} {cs : List Value} (h : w.cells? 0 a n = some cs) (hn : 0 < n) : ∃ b o arr ty fz, a = ⟨b, o, none⟩ ∧ w.heap[b]? = some (.cells arr ty fz) := by
  obtain ⟨_, hl, hc⟩ := World.cells?_some h
  have h0 := hc 0 hn
  rw [List.getElem?_eq_getElem (by omega)] at h0
  obtain ⟨b, o, sp⟩ := a
  unfold World.cell? at h0
  split at h0
  · rename_i c ty fz hh
    split at h0
    · cases h0
    · rename_i hs
      cases sp with
      | none => exact ⟨b, o, c, ty, fz, rfl, hh⟩
      | some s => exact absurd rfl hs
  · cases h0

mutual
theorem Ty.reads : ∀ (ty : Ty) (fuel : Nat) (t : TypeId) (cs : List Value) (x : DataW H × List MemPlace), ty.ok P t = true → DataW.trod enc P w 0 (fun _ => true) held fuel t cs = some x → ∃ v : ty.Val, ty.wf v ∧ cs.length = ty.width ∧ DRA (allF w) w (fun i => cs[i]?) 0 (ty.cells v)
  | .int k, fuel, t, cs, x, hok, h => by
    simp only [Ty.ok] at hok
    split at hok
    · rename_i k' hu
      have hk := of_decide_eq_true hok
      subst hk
      obtain ⟨n, rfl, _, hw⟩ := DataW.trod_int hu h
      exact ⟨(n : Int), hw, rfl, dra_one rfl rfl (by simp only [DR])⟩
    · cases hok
  | .bool, fuel, t, cs, x, hok, h => by
    simp only [Ty.ok] at hok
    split at hok
    · rename_i hu
      obtain ⟨b, rfl, _⟩ := DataW.trod_bool hu h
      exact ⟨(b : Bool), trivial, rfl, dra_one rfl rfl (by simp only [DR])⟩
    · cases hok
  | .str, fuel, t, cs, x, hok, h => by
    simp only [Ty.ok] at hok
    split at hok
    · rename_i hu
      obtain ⟨s, rfl, _, hs⟩ := DataW.trod_string hu h
      refine ⟨(s.data.toList : List UInt8), ?_, rfl, dra_one rfl rfl (by simp only [DR])⟩
      simp only [Ty.wf]
      rw [Array.length_toList]; exact hs
    · cases hok
  | .struct fs, fuel, t, cs, x, hok, h => by
    simp only [Ty.ok] at hok
    split at hok
    · rename_i fields hu
      simp only [Bool.and_eq_true] at hok
      obtain ⟨hw, hf⟩ := hok
      have hw := Nat.eq_of_beq_eq_true hw
      obtain ⟨xs, n, rfl, _, hl, hxl, hx⟩ := DataW.trod_struct hu h
      have hall : ∀ (i : Nat) (f : Field), fields.toList[i]? = some f → ∃ y, DataW.trod enc P w 0 (fun _ => true) held n f.type ((cs.drop f.offset).take (P.cellsOf f.type)) = some y := fun i f hi => by
        rw [Array.getElem?_toList] at hi
        have hlt := (Array.getElem?_eq_some_iff.1 hi).1
        have := hx i f hi
        rw [List.getElem?_eq_getElem (by omega)] at this
        exact ⟨_, this⟩
      obtain ⟨v, h1, h2⟩ := Tys.reads fs n fields.toList 0 cs hf hall
      exact ⟨v, h1, by rw [hl, hw]; rfl, h2⟩
    · cases hok
  | .slice e, fuel, t, cs, x, hok, h => by
    simp only [Ty.ok] at hok
    split at hok
    · rename_i te hu
      simp only [Bool.and_eq_true, Nat.blt_eq] at hok
      obtain ⟨⟨hw, hw0⟩, he⟩ := hok
      have hw := Nat.eq_of_beq_eq_true hw
      rcases Go.Deep.open_slice hu h with ⟨rfl, _⟩ | ⟨a, len, cap, m, n, Dx, Pl, rfl, hb, hlc, hcm, hm, _, hi⟩
      · exact ⟨([] : List e.Val), ⟨by simp, fun a h => by simp at h⟩, rfl, dra_one rfl rfl (by simp only [DR]; exact .inl ⟨⟨_, _, rfl⟩, trivial⟩)⟩
      · have hlm : len ≤ m := by rw [hm]; split <;> omega
        have each : ∀ i, i < len → ∃ v : e.Val, e.wf v ∧ ∃ cs', w.cells? 0 (a.add (i * P.cellsOf te)) (P.cellsOf te) = some cs' ∧ DRA (allF w) w (fun j => cs'[j]?) 0 (e.cells v) := fun i hlt => by
          obtain ⟨cs', h1, h2⟩ := hi i (by omega)
          obtain ⟨v, q1, q2, q3⟩ := Ty.reads e n te cs' _ he h2
          exact ⟨v, q1, cs', h1, q3⟩
        have : ∃ V : Nat → e.Val, ∀ i, i < len → (e.wf (V i) ∧ ∃ cs', w.cells? 0 (a.add (i * P.cellsOf te)) (P.cellsOf te) = some cs' ∧ DRA (allF w) w (fun j => cs'[j]?) 0 (e.cells (V i))) :=
          ⟨fun i => if h : i < len then (each i h).choose else e.zero, fun i h => by
            simp only [h, dif_pos]
            exact (each i h).choose_spec⟩
        obtain ⟨V, hV⟩ := this
        refine ⟨((List.range len).map V : List e.Val), ⟨by simp; omega, fun v hv => ?_⟩, rfl, dra_one rfl rfl ?_⟩
        · simp only [List.mem_map, List.mem_range] at hv
          obtain ⟨i, hlt, rfl⟩ := hv
          exact (hV i hlt).1
        simp only [DR]
        simp only [if_true] at hm
        by_cases hc0 : cap = 0
        · have hl0 : len = 0 := by omega
          subst hl0 hc0
          exact .inl ⟨⟨_, _, rfl⟩, by simp⟩
        · obtain ⟨cs0, h0, _⟩ := hi 0 (by omega)
          rw [Nat.zero_mul, show a.add 0 = a by simp [Addr.add]] at h0
          obtain ⟨b, o, arr, ty, fz, ha, hh⟩ := row_of_cells h0 (by omega)
          have ha' : a = ⟨b, a.off, none⟩ := by subst ha; rfl
          refine .inr ⟨b, a.off, cap, arr, ty, fz, by rw [ha']; simp, by simpa using hlc, lt_of_heap hh, hh, fun i v hv => ?_⟩
          have hlt : i < len := by have := (List.getElem?_eq_some_iff.1 hv).1; simpa using this
          simp [hlt] at hv
          subst hv
          obtain ⟨_, cs', h1, h2⟩ := hV i hlt
          refine ⟨Ty.cells_len _ _, ?_⟩
          obtain ⟨_, hcl, hcc⟩ := World.cells?_some h1
          rw [DRA_iff] at h2 ⊢
          intro j c hj
          obtain ⟨u, p1, p2⟩ := h2 j c hj
          have hjl := (List.getElem?_eq_some_iff.1 hj).1
          rw [Ty.cells_len] at hjl
          refine ⟨u, ?_, p2⟩
          have h3 := hcc j (by omega)
          rw [Nat.zero_add] at p1
          rw [p1, ha', add_plain, add_plain] at h3
          simp only [World.cell?, hh] at h3
          rw [← hw]
          simpa using h3
    · cases hok
theorem Tys.reads : ∀ (ts : Tys) (n : Nat) (fields : List Field) (off : Nat) (cs : List Value), ts.ok P fields off = true → (∀ (i : Nat) (f : Field), fields[i]? = some f → ∃ y, DataW.trod enc P w 0 (fun _ => true) held n f.type ((cs.drop f.offset).take (P.cellsOf f.type)) = some y) → ∃ v : ts.Val, ts.wf v ∧ DRA (allF w) w (fun i => cs[i]?) off (ts.cells v)
  | .nil, n, fields, off, cs, hok, h => ⟨(), trivial, by simp only [Tys.cells, DRA]⟩
  | .cons t ts, n, fields, off, cs, hok, h => by
    simp only [Tys.ok] at hok
    split at hok
    · rename_i f fs
      simp only [Bool.and_eq_true] at hok
      obtain ⟨⟨⟨h1, h2⟩, h3⟩, h4⟩ := hok
      have h1 := Nat.eq_of_beq_eq_true h1
      have h2 := Nat.eq_of_beq_eq_true h2
      obtain ⟨y, hy⟩ := h 0 f rfl
      obtain ⟨v, q1, q2, q3⟩ := Ty.reads t n f.type _ y h3 hy
      obtain ⟨v2, r1, r2⟩ := Tys.reads ts n fs (off + t.width) cs h4 (fun i g hg => h (i + 1) g (by simpa using hg))
      refine ⟨(v, v2), ⟨q1, r1⟩, ?_⟩
      simp only [Tys.cells]
      refine dra_app ?_ (by rw [Ty.cells_len]; exact r2)
      rw [DRA_iff] at q3 ⊢
      intro i c hi
      obtain ⟨u, p1, p2⟩ := q3 i c hi
      have hlt := (List.getElem?_eq_some_iff.1 hi).1
      rw [Ty.cells_len] at hlt
      refine ⟨u, ?_, p2⟩
      rw [Nat.zero_add, List.getElem?_take, if_pos (by omega), List.getElem?_drop, h1] at p1
      exact p1
    · cases hok
end

def Ty.top : (t : Ty) → t.Val → D
  | .int k, (n : Int) => .int k n
  | .bool, (b : Bool) => .bool b
  | .str, (s : List UInt8) => .str s
  | .struct fs, v => .agg (fs.cells v)
  | .slice e, (l : List e.Val) => .sl e.width e.cells e.zero l
theorem Ty.topReads {r : Reach} {b0 : Nat} : ∀ (ty : Ty) (t : TypeId) (v : Value) (d : DataW H) (ps : List MemPlace), ty.ok P t = true → Value.okWide P w r b0 t v → DataW.Trod enc P w 0 (fun _ => true) held t v d ps → ∃ x : ty.Val, ty.wf x ∧ DR (allF w) w (ty.top x) v := fun ty t v d ps hok hv h => by
  obtain ⟨fuel, h⟩ := h
  obtain ⟨x, h1, h2, h3⟩ := Ty.reads ty fuel t _ _ hok h
  refine ⟨x, h1, ?_⟩
  have one : ∀ (y : D), v.cells.toList = [v] → DRA (allF w) w (fun i => v.cells.toList[i]?) 0 [y] → DR (allF w) w y v := fun y e hd => by
    rw [e] at hd
    simp only [DRA] at hd
    obtain ⟨⟨u, hu, _, hd⟩, _⟩ := hd
    simp at hu; subst hu; exact hd
  cases ty with
  | int k =>
    simp only [Ty.ok] at hok
    split at hok
    · rename_i k' hu
      refine one _ ?_ h3
      cases v <;> first | rfl | (simp [Value.okWide, hu, Cell.okWide, Cell.ok] at hv)
    · cases hok
  | bool =>
    simp only [Ty.ok] at hok
    split at hok
    · rename_i hu
      refine one _ ?_ h3
      cases v <;> first | rfl | (simp [Value.okWide, hu, Cell.okWide, Cell.ok] at hv)
    · cases hok
  | str =>
    simp only [Ty.ok] at hok
    split at hok
    · rename_i hu
      refine one _ ?_ h3
      cases v <;> first | rfl | (simp [Value.okWide, hu, Cell.okWide, Cell.ok] at hv)
    · cases hok
  | struct fs =>
    simp only [Ty.ok] at hok
    split at hok
    · rename_i fields hu
      simp only [Value.okWide, hu] at hv
      obtain ⟨arr, rfl, hs, _⟩ := hv
      simp only [Ty.top, DR]
      refine ⟨arr, rfl, ?_, ?_⟩
      · have hc := Tys.cells_len fs x
        have h2' : arr.size = fs.width := by simpa [Value.cells, Ty.width] using h2
        exact h2'.trans hc.symm
      · rw [DRA_iff] at h3 ⊢
        intro i c hi
        obtain ⟨u, p1, p2⟩ := h3 i c hi
        exact ⟨u, by simpa [Value.cells] using p1, p2⟩
    · cases hok
  | slice e =>
    simp only [Ty.ok] at hok
    split at hok
    · rename_i te hu
      refine one _ ?_ h3
      cases v <;> first | rfl | (simp [Value.okWide, hu, Cell.okWide, Cell.ok] at hv)
    · cases hok

def Tys.tops : (ts : Tys) → ts.Val → List D
  | .nil, _ => []
  | .cons t ts, v => t.top v.1 :: ts.tops v.2
def Tys.oks (P : Program) : Tys → List TypeId → Bool
  | .nil, l => match l with | [] => true | _ :: _ => false
  | .cons t ts, l => match l with | a :: r => Ty.ok P t a && Tys.oks P ts r | [] => false
theorem Tys.tops_len : ∀ (ts : Tys) (l : List TypeId) (v : ts.Val), ts.oks P l = true → (ts.tops v).length = l.length
  | .nil, [], _, _ => rfl
  | .nil, _ :: _, _, h => by simp [Tys.oks] at h
  | .cons t ts, [], _, h => by simp [Tys.oks] at h
  | .cons t ts, a :: r, v, h => by
    simp only [Tys.oks, Bool.and_eq_true] at h
    simp only [Tys.tops, List.length_cons, Tys.tops_len ts r v.2 h.2]
theorem Tys.topsRead {r : Reach} {b0 : Nat} : ∀ (tys : Tys) (ts : List TypeId) (vs : List Value) (ds : List (DataW H)) (ps : List MemPlace), tys.oks P ts = true → (∀ (j : Nat) t v, ts[j]? = some t → vs[j]? = some v → Value.okWide P w r b0 t v) → DataW.TrodAll enc P w 0 (fun _ => true) held ts vs ds ps → ∃ x : tys.Val, tys.wf x ∧ vs.length = ts.length ∧ ∀ g off, (∀ i, g (off + i) = vs[i]?) → DRT (allF w) w g off (tys.tops x)
  | .nil, [], vs, ds, ps, _, _, h => by
    cases vs <;> cases ds <;> first | (exact absurd h id) | exact ⟨(), trivial, rfl, fun g off _ => by simp only [Tys.tops, DRT]⟩
  | .nil, _ :: _, _, _, _, hok, _, _ => by simp [Tys.oks] at hok
  | .cons t ts, [], _, _, _, hok, _, _ => by simp [Tys.oks] at hok
  | .cons t ts, a :: r', vs, ds, ps, hok, hv, h => by
    simp only [Tys.oks, Bool.and_eq_true] at hok
    cases vs with
    | nil => cases ds <;> exact absurd h id
    | cons v vs =>
      cases ds with
      | nil => exact absurd h id
      | cons d ds =>
        obtain ⟨p, q, h1, h2, _⟩ := h
        obtain ⟨x, g1, g2⟩ := Ty.topReads t a v d p hok.1 (hv 0 a v rfl rfl) h1
        obtain ⟨y, k1, k2, k3⟩ := Tys.topsRead ts r' vs ds q hok.2 (fun j t' v' e1 e2 => hv (j + 1) t' v' (by simpa using e1) (by simpa using e2)) h2
        refine ⟨(x, y), ⟨g1, k1⟩, by simp [k2], fun g off hg => ?_⟩
        simp only [Tys.tops, DRT]
        refine ⟨⟨v, by simpa using hg 0, g2⟩, k3 g (off + 1) (fun i => ?_)⟩
        rw [Nat.add_assoc, Nat.add_comm 1 i, hg (i + 1)]; simp
end
end Go.Vw

/-
  From a contract on values of plain types to what a law's row asks of a call. Conditions: closed facts of the program's types.
-/
namespace Go.Vw
open Go.ChangeShapes Go.WideShapes Go.ChangeAt Go.RowKit

theorem post_below {H : Type} {enc : TypeId × Value → H} {P : Program} {f : Func} {s : ChangeSpec} {apart fresh handsOn again : Bool} {W W' : World} {args : Array Value} {v : Value} {ds gs : List (DataW H)} {before pa pv : List MemPlace}
    (hW : DataW.Whole enc P f.params.toList s.vars apart W args.toList ds gs before)
    (hres : ∀ (b : Nat) (sp : Nat → Bool) (hd : Bool), DataW.TrodAll enc P W' b sp hd f.resultTypes.toList (v.resultList f.resultTypes.size) (s.fn H (ds ++ gs)).results [])
    (hargs : ∀ sp : Nat → Bool, (∀ p ∈ before, sp p.block = true) → DataW.TrodAll enc P W' 0 sp true f.params.toList args.toList (s.fn H (ds ++ gs)).args pa)
    (hvars : ∀ sp : Nat → Bool, (∀ p ∈ before, sp p.block = true) → DataW.TrodVars enc P W' sp s.vars (s.fn H (ds ++ gs)).vars pv)
    (hps : before = pa ++ pv) (hb : Below W.heap.size W W')
    (hok : ∀ (j : Nat) (t : TypeId) (r : Value), f.resultTypes[j]? = some t → (v.resultList f.resultTypes.size)[j]? = some r → Value.okWide P W' .any 0 t r) :
    s.post enc P f apart fresh handsOn again W args v W' := by
  have hlt := hW.lt
  have hin : ∀ p ∈ before, (fun b => decide (b < W.heap.size)) p.block = true := fun p hp => decide_eq_true (hlt p hp)
  obtain ⟨_, _, _, _, _, hz, hn⟩ := id hW
  refine ⟨ds, gs, before, [], pa, pv, hW, hres _ _ _, hargs _ hin, hvars _ hin, hb.frame _, fun _ => ⟨hok, _, _, ([] ++ pa) ++ pv, ⟨[] ++ pa, pv, trodAll_append (hargs _ fun _ _ => rfl) (hres _ _ _), hvars _ fun _ _ => rfl, rfl, fun b off hp => ?_, fun ha => ?_⟩, fun p hp _ => ?_⟩⟩
  · have hp' : MemPlace.cell b off ∈ before := by rw [hps]; simpa using hp
    rw [hb.frozen (hlt _ hp')]
    exact hz b off hp'
  · have := hn ha
    rw [hps] at this
    simpa using this
  · rw [hps]; simpa using hp

theorem trodAll_stays {H : Type} {enc : TypeId × Value → H} {P : Program} {W W' : World} {sp' : Nat → Bool} (hl : laidOutB P = true) : ∀ {ts : List TypeId} {vs : List Value} {ds : List (DataW H)} {ps : List MemPlace}, (ts.all fun t => P.readableRec t && decide (t < P.types.size)) = true → DataW.TrodAll enc P W 0 (fun _ => true) true ts vs ds ps → (∀ p ∈ ps, W.sameAt W' p) → (∀ p ∈ ps, sp' p.block = true) → DataW.TrodAll enc P W' 0 sp' true ts vs ds ps
  | [], [], [], _, _, h, _, _ => h
  | [], _ :: _, _, _, _, h, _, _ => absurd h id
  | [], [], _ :: _, _, _, h, _, _ => absurd h id
  | _ :: _, [], _, _, _, h, _, _ => absurd h id
  | _ :: _, _ :: _, [], _, _, h, _, _ => absurd h id
  | t :: ts, v :: vs, d :: ds, _, ht, ⟨p, q, h1, h2, e⟩, hsame, hs => by
    subst e
    simp only [List.all_cons, Bool.and_eq_true, decide_eq_true_eq] at ht
    exact ⟨p, q, WideElems.Trod_stays hl ht.1.1 ht.1.2 h1 (fun x hx => hsame x (by simp [hx])) (fun x hx => hs x (by simp [hx])), trodAll_stays hl ht.2 h2 (fun x hx => hsame x (by simp [hx])) (fun x hx => hs x (by simp [hx])), rfl⟩

theorem law_contract {P : Program} {f : FuncId} {fn : Func} {s : ChangeSpec} {rt : TypeId} (tys : Tys) (hl : laidOutB P = true) (hok : tys.oks P fn.params.toList = true) (hp : (fn.params.toList.all fun t => P.readableRec t && decide (t < P.types.size)) = true) (hv : s.vars = []) (hr : fn.resultTypes = #[rt]) (hrt : P.underlying rt = some .bool) (hc : ∀ x : tys.Val, tys.wf x → Ret P f (tys.tops x) (· = .bool true))
    (H : Type) (enc : TypeId × Value → H) (hs : ∀ ds : List (DataW H), ds.length = fn.params.toList.length → (s.fn H ds).results = [.lit (.bool true)] ∧ (s.fn H ds).args = ds ∧ (s.fn H ds).vars = [])
    (W : World) (base : Nat) (args : Array Value) (ds gs : List (DataW H)) (before : List MemPlace)
    (hval : ∀ (j : Nat) t v, fn.params[j]? = some t → args[j]? = some v → Value.okWide P W .any base t v)
    (hW : DataW.Whole enc P fn.params.toList s.vars false W args.toList ds gs before) :
    Calls P f args W fun e W' => ∃ v, e = .returned v ∧ s.post enc P fn false true false false W args v W' := by
  have hW' := hW
  have hlt := hW.lt
  obtain ⟨p, q, hA, hV, rfl, hfz, hnd⟩ := hW
  rw [hv] at hV
  obtain ⟨rfl, rfl⟩ := trodVars_none hV
  obtain ⟨x, hx, hlen, hd⟩ := Tys.topsRead tys fn.params.toList args.toList ds p hok (fun j t v h1 h2 => hval j t v (by simpa using h1) (by simpa using h2)) hA
  have hdl : ds.length = fn.params.toList.length := by
    have aux : ∀ (ts : List TypeId) (vs : List Value) (ds : List (DataW H)) (ps : List MemPlace), DataW.TrodAll enc P W 0 (fun _ => true) true ts vs ds ps → ds.length = ts.length := by
      intro ts
      induction ts with
      | nil => intro vs ds ps h; cases vs <;> cases ds <;> first | (exact absurd h id) | rfl
      | cons t ts ih =>
        intro vs ds ps h
        cases vs with
        | nil => cases ds <;> exact absurd h id
        | cons v vs => cases ds with
          | nil => exact absurd h id
          | cons d ds => obtain ⟨_, q, _, h2, _⟩ := h; simp [ih _ _ _ h2]
    exact aux _ _ _ _ hA
  obtain ⟨s1, s2, s3⟩ := hs ds hdl
  have ht := Tys.tops_len tys fn.params.toList x hok
  refine ((hc x hx).run (allF W) W args (fun b h => h) (by rw [ht, ← hlen]; simp) (hd _ 0 (fun i => by simp))).mono fun e W' ⟨v, r, F', he, hr', hb, _, _, hv'⟩ => ?_
  subst he hr'
  simp only [Vw.DR] at hv'
  subst hv'
  refine ⟨_, rfl, post_below (pa := p) (pv := []) hW' ?_ ?_ ?_ rfl hb ?_⟩
  · intro b sp hd'
    simp only [List.append_nil, s1, hr]
    exact trodAll_cons_mk (shut_bool hrt _) trodAll_mk0
  · intro sp hsp
    simp only [List.append_nil, s2]
    exact trodAll_stays hl hp hA (fun y hy => hb.same (hlt y (by simp [hy]))) (fun y hy => hsp y (by simp [hy]))
  · intro sp hsp
    simp only [List.append_nil, s3, hv]
    rfl
  · exact ok_one hr rfl (okWide_bool_mk hrt _)
end Go.Vw

/-
  Natural numbers as lists of limbs of 32 bits: plain arithmetic. Conditions: as each says.
-/
namespace Go.Vw

abbrev B : Nat := 4294967296

def val : List Nat → Nat
  | [] => 0
  | x :: l => x + B * val l

def WF (l : List Nat) : Prop := ∀ x ∈ l, x < B

def limbs (n : Nat) : List Nat := if h : n = 0 then [] else n % B :: limbs (n / B)
termination_by n
decreasing_by exact Nat.div_lt_self (Nat.pos_of_ne_zero h) (by decide)

theorem limbs_zero : limbs 0 = [] := by unfold limbs; simp
theorem limbs_pos {n : Nat} (h : n ≠ 0) : limbs n = n % B :: limbs (n / B) := by
  rw [limbs]; simp [h]

theorem val_limbs (n : Nat) : val (limbs n) = n := by
  induction n using Nat.strongRecOn with
  | _ n ih =>
    by_cases h : n = 0
    · subst h; rw [limbs_zero]; rfl
    · rw [limbs_pos h, val, ih _ (Nat.div_lt_self (Nat.pos_of_ne_zero h) (by decide))]
      exact Nat.mod_add_div n B

theorem wf_limbs (n : Nat) : WF (limbs n) := by
  induction n using Nat.strongRecOn with
  | _ n ih =>
    by_cases h : n = 0
    · subst h; rw [limbs_zero]; intro x hx; cases hx
    · rw [limbs_pos h]
      intro x hx
      rcases List.mem_cons.1 hx with rfl | hx
      · exact Nat.mod_lt _ (by decide)
      · exact ih _ (Nat.div_lt_self (Nat.pos_of_ne_zero h) (by decide)) x hx

theorem WF.tail {x : Nat} {l : List Nat} (h : WF (x :: l)) : WF l := fun y hy => h y (by simp [hy])
theorem WF.head {x : Nat} {l : List Nat} (h : WF (x :: l)) : x < B := h x (by simp)
theorem WF.nil : WF [] := fun x hx => by cases hx
theorem WF.append {a b : List Nat} (ha : WF a) (hb : WF b) : WF (a ++ b) := fun x hx => by
  rcases List.mem_append.1 hx with h | h
  · exact ha x h
  · exact hb x h
theorem WF.take {a : List Nat} (ha : WF a) (n : Nat) : WF (a.take n) := fun x hx => ha x (List.mem_of_mem_take hx)
theorem WF.drop {a : List Nat} (ha : WF a) (n : Nat) : WF (a.drop n) := fun x hx => ha x (List.mem_of_mem_drop hx)
theorem WF.getD {a : List Nat} (ha : WF a) (i : Nat) : a.getD i 0 < B := by
  by_cases h : i < a.length
  · simp only [List.getD, List.getElem?_eq_getElem h, Option.getD_some]; exact ha _ (List.getElem_mem h)
  · simp [List.getD, List.getElem?_eq_none (Nat.le_of_not_lt h)]

theorem val_append (a b : List Nat) : val (a ++ b) = val a + B ^ a.length * val b := by
  induction a with
  | nil => simp [val]
  | cons x a ih =>
    simp only [List.cons_append, val, ih, List.length_cons, Nat.pow_succ]
    rw [Nat.mul_add, Nat.mul_comm (B ^ a.length) B, Nat.mul_assoc, Nat.add_assoc]

theorem val_lt {l : List Nat} (h : WF l) : val l < B ^ l.length := by
  induction l with
  | nil => simp [val]
  | cons x l ih =>
    have h1 := ih h.tail
    have h2 := h.head
    simp only [val, List.length_cons, Nat.pow_succ]
    calc x + B * val l < B + B * val l := by omega
      _ = B * (val l + 1) := by rw [Nat.mul_add]; omega
      _ ≤ B * B ^ l.length := Nat.mul_le_mul_left _ h1
      _ = B ^ l.length * B := Nat.mul_comm _ _

def valid (l : List Nat) : Bool := l.isEmpty || l.getD (l.length - 1) 0 != 0

def takeL (l : List Nat) : List Nat := if valid l then l else []
def nv (l : List Nat) : Nat := val (takeL l)

theorem length_limbs_le {n k : Nat} (h : n < B ^ k) : (limbs n).length ≤ k := by
  induction k generalizing n with
  | zero => have : n = 0 := by simpa using h
            subst this; simp [limbs_zero]
  | succ k ih =>
    by_cases h0 : n = 0
    · subst h0; simp [limbs_zero]
    · rw [limbs_pos h0]
      have := ih (n := n / B) (Nat.div_lt_of_lt_mul (by rw [Nat.pow_succ, Nat.mul_comm] at h; exact h))
      simpa using this
theorem lt_pow_length (n : Nat) : n < B ^ (limbs n).length := by
  have := val_lt (wf_limbs n)
  rwa [val_limbs] at this
end Go.Vw

/-
  Lists of limbs, more: digit by digit. Conditions: none.
-/
namespace Go.Vw

theorem WF.set {l : List Nat} (h : WF l) (i : Nat) {x : Nat} (hx : x < B) : WF (l.set i x) := fun y hy => by
  rcases List.mem_or_eq_of_mem_set hy with h1 | h1
  · exact h y h1
  · omega
theorem B_val : B = 4294967296 := rfl

def cmpN (m n : Nat) : Int := if m < n then -1 else if n < m then 1 else 0

theorem limbs_len_mono {m n : Nat} (h : m ≤ n) : (limbs m).length ≤ (limbs n).length := length_limbs_le (Nat.lt_of_le_of_lt h (lt_pow_length n))
end Go.Vw

/-
  Lists of limbs: lengths of results, digits and bits. Conditions: none.
-/
namespace Go.Vw

abbrev ln (n : Nat) : Nat := (limbs n).length
theorem lt_ln (n : Nat) : n < B ^ ln n := lt_pow_length n
theorem ln_le {n k : Nat} (h : n < B ^ k) : ln n ≤ k := length_limbs_le h
theorem ln_mono {m n : Nat} (h : m ≤ n) : ln m ≤ ln n := limbs_len_mono h
theorem ln_add1 {m n k : Nat} (h1 : ln m ≤ k) (h2 : ln n ≤ k) : ln (m + n) ≤ k + 1 := by
  refine ln_le ?_
  have h1' := Nat.lt_of_lt_of_le (lt_ln m) (Nat.pow_le_pow_right (show 0 < B by decide) h1)
  have h2' := Nat.lt_of_lt_of_le (lt_ln n) (Nat.pow_le_pow_right (show 0 < B by decide) h2)
  rw [Nat.pow_succ]
  have : B ^ k * 2 ≤ B ^ k * B := Nat.mul_le_mul_left _ (by decide)
  omega
theorem ln_mul (m n : Nat) : ln (m * n) ≤ ln m + ln n := by
  refine ln_le ?_
  rw [Nat.pow_add]
  by_cases h : n = 0
  · subst h; exact Nat.mul_pos (Nat.pow_pos (by decide)) (Nat.pow_pos (by decide))
  · exact Nat.mul_lt_mul_of_lt_of_le (lt_ln m) (Nat.le_of_lt (lt_ln n)) (Nat.pow_pos (by decide))
end Go.Vw

/-
  Integers and rational numbers as the program holds them. Conditions: none.
-/
namespace Go.Vw

def validI (neg : Bool) (mag : List Nat) : Bool := valid mag && !(neg && decide (mag.length = 0))
def iv' (neg : Bool) (mag : List Nat) : Int := if validI neg mag then (if neg then -(val mag : Int) else val mag) else 0

theorem iv'_abs (neg : Bool) (mag : List Nat) : (iv' neg mag).natAbs = if validI neg mag then val mag else 0 := by
  unfold iv'; split
  · cases neg <;> simp
  · rfl
theorem iv'_len {neg : Bool} {mag : List Nat} (h : WF mag) : (limbs (iv' neg mag).natAbs).length ≤ mag.length := by
  rw [iv'_abs]; split
  · exact length_limbs_le (val_lt h)
  · rw [limbs_zero]; simp
structure IntOk (neg : Bool) (mag : List Nat) (k : Nat) : Prop where
  wf : WF mag
  len : mag.length < k
theorem IntOk.z {z : Int} {k : Nat} (h : (limbs z.natAbs).length < k) : IntOk (decide (z < 0)) (limbs z.natAbs) k := ⟨wf_limbs _, h⟩
theorem IntOk.val {neg : Bool} {mag : List Nat} {k : Nat} (h : IntOk neg mag k) : (limbs (iv' neg mag).natAbs).length < k := Nat.lt_of_le_of_lt (iv'_len h.wf) h.len
end Go.Vw

/-
  Rational numbers as the program holds them; rows, tables, strings. Conditions: none.
-/
namespace Go.Vw

abbrev R3 := Bool × List Nat × List Nat
@[reducible] def rC (r : R3) : List D := [.bool r.1, u32s r.2.1, u32s r.2.2]
@[reducible] def rD (r : R3) : D := .agg (rC r)
@[reducible] def r0 : R3 := (false, [], [])
@[reducible] def rsD (l : List R3) : D := .sl 3 rC r0 l
@[reducible] def eR (l : List R3) : List D := [rsD l]
@[reducible] def rssD (l : List (List R3)) : D := .sl 1 eR [] l
@[reducible] def eS (b : List UInt8) : List D := [.str b]
@[reducible] def strsD (l : List (List UInt8)) : D := .sl 1 eS [] l

end Go.Vw

/-
  Rational numbers: what the fields stand for, and the fields of a number. Conditions: as each says.
-/
namespace Go.Vw

def dL (d : Nat) : List Nat := if d = 1 then [] else limbs d
def rq (q : Rat) : R3 := (decide (q.num < 0), limbs q.num.natAbs, dL q.den)
def dv (d : List Nat) : Nat := if d = [] then 1 else val d
def validR (r : R3) : Bool := validI r.1 r.2.1 && valid r.2.2 && !decide (r.2.2 = [1]) && (decide (r.2.2 = []) || (decide (r.2.1 ≠ []) && decide (limbs (Nat.gcd (nv r.2.1) (nv r.2.2)) = [1])))
def rv (r : R3) : Rat := if h : validR r = true ∧ dv r.2.2 ≠ 0 ∧ (iv' r.1 r.2.1).natAbs.Coprime (dv r.2.2) then ⟨iv' r.1 r.2.1, dv r.2.2, h.2.1, h.2.2⟩ else 0

structure RatOk (r : R3) (k : Nat) : Prop where
  wm : WF r.2.1
  wd : WF r.2.2
  lm : r.2.1.length < k
  ld : r.2.2.length < k
def okQ (k : Nat) (q : Rat) : Prop := (limbs q.num.natAbs).length < k ∧ (limbs q.den).length < k
theorem okQ.mono {k l : Nat} {q : Rat} (h : okQ k q) (hl : k ≤ l) : okQ l q := ⟨Nat.lt_of_lt_of_le h.1 hl, Nat.lt_of_lt_of_le h.2 hl⟩
end Go.Vw

/-
  Rational numbers: comparison, whole numbers, bounds. Conditions: as each says.
-/
namespace Go.Vw
theorem RatOk.up {r : R3} {k l : Nat} (h : RatOk r k) (hl : k ≤ l) : RatOk r l := ⟨h.wm, h.wd, Nat.lt_of_lt_of_le h.lm hl, Nat.lt_of_lt_of_le h.ld hl⟩
end Go.Vw

/-
  Rational numbers: sizes of results, order, whole parts. Conditions: as each says.
-/
namespace Go.Vw
theorem divInt_le (a b : Int) (hb : b ≠ 0) : (Rat.divInt a b).num.natAbs ≤ a.natAbs ∧ (Rat.divInt a b).den ≤ b.natAbs := by
  rw [Rat.num_divInt, Rat.den_divInt, if_neg hb]
  refine ⟨?_, Nat.div_le_self _ _⟩
  have hg : 0 < Int.gcd b a := Int.gcd_pos_of_ne_zero_left _ hb
  have hd : ((Int.gcd b a : Nat) : Int) ∣ b.sign * a := Int.dvd_trans (Int.gcd_dvd_right b a) (Int.dvd_mul_left _ _)
  rw [Int.natAbs_ediv_of_dvd hd, Int.natAbs_mul]
  have h1 : b.sign.natAbs = 1 := by rw [Int.natAbs_sign, if_neg hb]
  rw [h1, Nat.one_mul]
  exact Nat.div_le_self _ _
theorem okQ_divInt {a b : Int} {k : Nat} (hb : b ≠ 0) (ha : (limbs a.natAbs).length < k) (hb2 : (limbs b.natAbs).length < k) : okQ k (Rat.divInt a b) :=
  ⟨Nat.lt_of_le_of_lt (limbs_len_mono (divInt_le a b hb).1) ha, Nat.lt_of_le_of_lt (limbs_len_mono (divInt_le a b hb).2) hb2⟩
theorem add_divInt (x y : Rat) : x + y = Rat.divInt (x.num * y.den + y.num * x.den) ((x.den * y.den : Nat) : Int) := by rw [Rat.add_def', ← Rat.divInt_ofNat]
theorem mul_divInt (x y : Rat) : x * y = Rat.divInt (x.num * y.num) ((x.den * y.den : Nat) : Int) := by rw [Rat.mul_def', ← Rat.divInt_ofNat]
theorem okQ.add {x y : Rat} {k l : Nat} (hx : okQ k x) (hy : okQ l y) : okQ (k + l) (x + y) := by
  rw [add_divInt]
  have l1 := ln_mul x.num.natAbs y.den
  have l2 := ln_mul y.num.natAbs x.den
  have l3 := ln_mul x.den y.den
  have e1 : (x.num * (y.den : Int)).natAbs = x.num.natAbs * y.den := by rw [Int.natAbs_mul, Int.natAbs_natCast]
  have e2 : (y.num * (x.den : Int)).natAbs = y.num.natAbs * x.den := by rw [Int.natAbs_mul, Int.natAbs_natCast]
  have l4 := ln_mono (Int.natAbs_add_le (x.num * y.den) (y.num * x.den))
  obtain ⟨x1, x2⟩ := hx
  obtain ⟨y1, y2⟩ := hy
  simp only [ln] at l1 l2 l3 l4
  have l5 := ln_add1 (m := (x.num * (y.den : Int)).natAbs) (n := (y.num * (x.den : Int)).natAbs) (k := k + l - 2) (by simp only [ln]; rw [e1]; omega) (by simp only [ln]; rw [e2]; omega)
  simp only [ln] at l5
  refine okQ_divInt (by have := Nat.mul_ne_zero x.den_nz y.den_nz; omega) (by omega) (by rw [Int.natAbs_natCast]; omega)
theorem okQ.mul {x y : Rat} {k l : Nat} (hx : okQ k x) (hy : okQ l y) : okQ (k + l) (x * y) := by
  rw [mul_divInt]
  have l1 := ln_mul x.num.natAbs y.num.natAbs
  have l3 := ln_mul x.den y.den
  have e1 : (x.num * y.num).natAbs = x.num.natAbs * y.num.natAbs := Int.natAbs_mul _ _
  obtain ⟨x1, x2⟩ := hx
  obtain ⟨y1, y2⟩ := hy
  simp only [ln] at l1 l3
  refine okQ_divInt (by have := Nat.mul_ne_zero x.den_nz y.den_nz; omega) (by rw [e1]; omega) (by rw [Int.natAbs_natCast]; omega)
theorem okQ.neg {x : Rat} {k : Nat} (hx : okQ k x) : okQ k (-x) := ⟨by rw [Rat.neg_num, Int.natAbs_neg]; exact hx.1, by rw [Rat.neg_den]; exact hx.2⟩
theorem okQ.sub {x y : Rat} {k l : Nat} (hx : okQ k x) (hy : okQ l y) : okQ (k + l) (x - y) := by rw [Rat.sub_eq_add_neg]; exact hx.add hy.neg
end Go.Vw

/-
  Matrices of rational numbers: the elimination as the specification has it, where each pivot stands in its place. Conditions: as each says.
-/
namespace Go.Vw
@[reducible] def qC (q : Rat) : List D := rC (rq q)
@[reducible] def qD (q : Rat) : D := rD (rq q)
@[reducible] def qsD (l : List Rat) : D := .sl 3 qC 0 l
@[reducible] def eQ (l : List Rat) : List D := [qsD l]
@[reducible] def qssD (l : List (List Rat)) : D := .sl 1 eQ [] l

def timesQ (l : List Rat) (c : Rat) : List Rat := l.map (· * c)
def plusQ (a b : List Rat) : List Rat := List.zipWith (· + ·) a b
def at2 (m : List (List Rat)) (i j : Nat) : Rat := (m.getD i []).getD j 0
def scaleQ (m : List (List Rat)) (j : Nat) : List (List Rat) := m.set j (timesQ (m.getD j []) (1 / at2 m j j))
def elimRow (m : List (List Rat)) (j i : Nat) : List Rat := if i = j then m.getD j [] else plusQ (m.getD i []) (timesQ (m.getD j []) (-(at2 m i j)))
def elimI (m : List (List Rat)) (j i : Nat) : List (List Rat) := (List.range i).map (elimRow m j) ++ m.drop i
def redQ (m : List (List Rat)) (j : Nat) : List (List Rat) := elimI (scaleQ m j) j m.length

def smallQ (q : Rat) : Prop := q.num.natAbs < 18446744073709551616 ∧ q.den < 18446744073709551616
theorem limbs_len2 {n : Nat} (h : n < 18446744073709551616) : (limbs n).length < 1000 := Nat.lt_of_le_of_lt (length_limbs_le (n := n) (k := 2) (by rw [B_val]; exact h)) (by decide)
theorem limbs_len4 {n : Nat} (h : n < 18446744073709551616 * 18446744073709551616) : (limbs n).length < 1000 := Nat.lt_of_le_of_lt (length_limbs_le (n := n) (k := 4) (by rw [B_val]; exact h)) (by decide)
theorem smallQ.ok {q : Rat} (h : smallQ q) : okQ 10000000 q := ⟨Nat.lt_trans (limbs_len2 h.1) (by decide), Nat.lt_trans (limbs_len2 h.2) (by decide)⟩
theorem smallQ.neg {q : Rat} (h : smallQ q) : smallQ (-q) := by unfold smallQ at *; rw [show (-q).num = -q.num from rfl, show (-q).den = q.den from rfl, Int.natAbs_neg]; exact h
theorem smallQ.one : smallQ 1 := by unfold smallQ; decide
theorem num_mul_le (x y : Rat) : (x * y).num.natAbs ≤ x.num.natAbs * y.num.natAbs ∧ (x * y).den ≤ x.den * y.den := by
  rw [Rat.num_mul, Rat.den_mul, ← Int.natAbs_mul]
  refine ⟨?_, Nat.div_le_self _ _⟩
  have hd : ((((x.num * y.num).natAbs.gcd (x.den * y.den) : Nat)) : Int) ∣ x.num * y.num := Int.ofNat_dvd_left.2 (Nat.gcd_dvd_left _ _)
  rw [Int.natAbs_ediv_of_dvd hd]
  exact Nat.div_le_self _ _
theorem smallQ.mul {x y : Rat} (hx : smallQ x) (hy : smallQ y) : okQ 10000000 (x * y) := by
  obtain ⟨h1, h2⟩ := num_mul_le x y
  exact ⟨Nat.lt_trans (limbs_len4 (Nat.lt_of_le_of_lt h1 (Nat.mul_lt_mul'' hx.1 hy.1))) (by decide), Nat.lt_trans (limbs_len4 (Nat.lt_of_le_of_lt h2 (Nat.mul_lt_mul'' hx.2 hy.2))) (by decide)⟩
structure GoodM (n : Nat) (m : List (List Rat)) : Prop where
  len : m.length = n
  row : ∀ i, i < n → (m.getD i []).length = n
  small : ∀ i, i < n → ∀ q ∈ m.getD i [], smallQ q
theorem GoodM.at2 {n : Nat} {m : List (List Rat)} (h : GoodM n m) {i j : Nat} (hi : i < n) (hj : j < n) : smallQ (at2 m i j) := by
  refine h.small i hi _ ?_
  unfold Vw.at2
  have hr := h.row i hi
  generalize m.getD i [] = r at *
  rw [List.getD_eq_getElem?_getD, List.getElem?_eq_getElem (by omega)]; exact List.getElem_mem _
def mAt (m : List (List Rat)) : Nat → List (List Rat)
  | 0 => m
  | j + 1 => redQ (mAt m j) j
def facAt (m : List (List Rat)) : Nat → Rat
  | 0 => 1
  | j + 1 => facAt m j * at2 (mAt m j) j j
structure RunOk (n : Nat) (m : List (List Rat)) : Prop where
  good : ∀ j, j ≤ n → GoodM n (mAt m j)
  piv : ∀ j, j < n → at2 (mAt m j) j j ≠ 0
  fac : ∀ j, j < n → smallQ (facAt m j)
  scaled : ∀ j, j < n → GoodM n (scaleQ (mAt m j) j)
end Go.Vw

/-
  Laws of machine words: borrow, halves, powers. Conditions: as each says.
-/
namespace Go.Vw

/-! ## Long division -/

section
variable {b t u0 v1 v0 q r : Nat} (hb : 1 < b) (hv : 0 < v1) (he : q * v1 + r = t)
include hb hv he
end
end Go.Vw

/-
  Sums, differences and products of lists of limbs, limb by limb into a row that lies ready. Conditions: as each says.
-/
namespace Go.Vw
theorem val_drop (l : List Nat) (i : Nat) (h : i < l.length) : val (l.drop i) = l.getD i 0 + B * val (l.drop (i + 1)) := by
  rw [List.drop_eq_getElem_cons h, val]
  rw [List.getD_eq_getElem?_getD, List.getElem?_eq_getElem h]; rfl
end Go.Vw

/-
  Lists of limbs of a fixed length; shifts; the steps of a long division. Conditions: as each says.
-/
namespace Go.Vw
def padL : Nat → Nat → List Nat
  | 0, _ => []
  | n + 1, v => v % B :: padL n (v / B)
theorem padL_len : ∀ n v, (padL n v).length = n
  | 0, v => rfl
  | n + 1, v => by simp [padL, padL_len n]
theorem padL_wf : ∀ n v, WF (padL n v)
  | 0, v => WF.nil
  | n + 1, v => fun x hx => by
    simp only [padL, List.mem_cons] at hx
    rcases hx with rfl | hx
    · exact Nat.mod_lt _ (by decide)
    · exact padL_wf n _ x hx
theorem padL_val : ∀ n v, val (padL n v) = v % B ^ n
  | 0, v => by simp [padL, val, Nat.mod_one]
  | n + 1, v => by
    rw [padL, val, padL_val n, Nat.pow_succ, Nat.mul_comm (B ^ n), Nat.mod_mul]
end Go.Vw

/-
  A part of a row of limbs rewritten limb by limb: a multiple taken away, a number put back. Conditions: as each says.
-/
namespace Go.Vw
def mid (U : List Nat) (j : Nat) (w : List Nat) : List Nat := U.take j ++ w ++ U.drop (j + w.length)
theorem mid_wf {U w : List Nat} {j : Nat} (hU : WF U) (hw : WF w) : WF (mid U j w) := WF.append (WF.append (hU.take j) hw) (hU.drop _)
end Go.Vw
