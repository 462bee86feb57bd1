/-
  What evalQ says of an operation is what the machine does: all operations. Conditions: the table of types is the program's.
-/
import Derived.Test.YtcblkjmnigbiiaaDoorVD
set_option linter.unusedSimpArgs false
namespace Go.Vw
open Go.RowKit

theorem run_sliceBound {P : Program} {w : World} {k : IntKind} {n : Int} {y : Nat} (code : BoundsCode) (h0 : 0 ≤ n) (h1 : n ≤ y) : (Instr.sliceBound (.int k n) y code).run P w = .ok n.toNat w := by
  simp only [Instr.sliceBound, asIntOf, Sem.run_bind, Sem.run_pure, Result.andThen_ok]
  rw [if_pos ⟨h0, h1⟩]; rfl

/-- The bounds of a slice expression: what they come to. -/
theorem run_sliceBounds {P : Program} {w : World} (isS : Bool) (n cap : Nat) (lo hi mx : Option Value) (l h m : Int) (hlo : (lo = none ∧ l = 0) ∨ ∃ k, lo = some (.int k l)) (hhi : (hi = none ∧ h = n ∧ mx = none) ∨ ∃ k, hi = some (.int k h)) (hmx : (mx = none ∧ m = cap) ∨ ∃ k, mx = some (.int k m)) (h0 : 0 ≤ l) (h1 : l ≤ h) (h2 : h ≤ m) (h3 : m ≤ cap) :
    (Instr.sliceBounds isS n cap lo hi mx).run P w = .ok (l.toNat, h.toNat, m.toNat) w := by
  have e1 : ∀ code, ∀ k, (Instr.sliceBound (.int k m) cap code).run P w = .ok m.toNat w := fun code k => run_sliceBound code (by omega) h3
  have e2 : ∀ code, ∀ k, (Instr.sliceBound (.int k h) m.toNat code).run P w = .ok h.toNat w := fun code k => run_sliceBound code (by omega) (by omega)
  have e3 : ∀ code, ∀ k, (Instr.sliceBound (.int k l) h.toNat code).run P w = .ok l.toNat w := fun code k => run_sliceBound code (by omega) (by omega)
  rcases hmx with ⟨rfl, rfl⟩ | ⟨km, rfl⟩
  · have hc : ((cap : Nat) : Int).toNat = cap := by omega
    rw [hc] at e2 ⊢
    rcases hhi with ⟨rfl, rfl, _⟩ | ⟨kh, rfl⟩
    · have hn : ((n : Nat) : Int).toNat = n := by omega
      rw [hn] at e3 ⊢
      rcases hlo with ⟨rfl, rfl⟩ | ⟨kl, rfl⟩
      · simp [Instr.sliceBounds]
      · simp [Instr.sliceBounds, e3]
    · rcases hlo with ⟨rfl, rfl⟩ | ⟨kl, rfl⟩
      · simp [Instr.sliceBounds, e2]
      · simp [Instr.sliceBounds, e2, e3]
  · rcases hhi with ⟨_, _, h⟩ | ⟨kh, rfl⟩
    · cases h
    · rcases hlo with ⟨rfl, rfl⟩ | ⟨kl, rfl⟩
      · simp [Instr.sliceBounds, e1, e2]
      · simp [Instr.sliceBounds, e1, e2, e3]

theorem add_if (a : Addr) (h : a.spot = none) (m l n : Nat) : (if m = l then (some a : Option Addr) else (some a : Option Addr).map (·.add n)) = some ⟨a.block, if m = l then a.off else a.off + n, none⟩ := by
  obtain ⟨b, o, sp⟩ := a
  simp at h; subst h
  split
  · rfl
  · simp [add_plain]

/-- A part of a slice of data. -/
theorem run_sliceSl {P : Program} {F : Nat → Prop} {w : World} {t e : TypeId} {td ed : TyD} (ht : TyOk P t td) (hd : td.desc = .slice e) (he : TyOk P e ed) {α : Type} {en : α → List D} {z : α} {ls : List α} {v : Value} (hx : DR F w (.sl ed.size en z ls) v) (lo hi mx : Option Value) (l h : Int) (m : Option Int) (hlo : (lo = none ∧ l = 0) ∨ ∃ k, lo = some (.int k l)) (hhi : (hi = none ∧ h = ls.length ∧ mx = none) ∨ ∃ k, hi = some (.int k h)) (hmx : (mx = none ∧ m = none) ∨ ∃ k i, mx = some (.int k i) ∧ m = some i ∧ h ≤ i ∧ i ≤ ls.length) (h0 : 0 ≤ l) (h1 : l ≤ h) (h2 : h ≤ ls.length) :
    ∃ u, (Instr.sliceAt t v lo hi mx).run P w = .ok u w ∧ DR F w (.sl ed.size en z ((ls.drop l.toNat).take (h.toNat - l.toNat))) u := by
  have e1 : ∀ (x : Value), (Instr.sliceAt t x lo hi mx).run P w = (Instr.slice t x lo hi mx).run P w := fun x => by
    simp only [Instr.sliceAt, Sem.run_bind, ht.runU, Result.andThen_ok, hd]
  simp only [DR] at hx
  rcases hx with ⟨⟨p, rfl⟩, rfl⟩ | ⟨b, off, cap, arr, ty, fz, rfl, hc, hb, hh, hr⟩
  · have hl0 : l = 0 := by simp at h2; omega
    have hh0 : h = 0 := by simp at h2; omega
    subst hl0 hh0
    refine ⟨.slice p 0 0, ?_, by simp only [DR]; exact .inl ⟨⟨p, rfl⟩, by simp⟩⟩
    rw [e1]
    have := run_sliceBounds (P := P) (w := w) true 0 0 lo hi mx 0 0 0 hlo (by simpa using hhi) (by
      rcases hmx with ⟨h, _⟩ | ⟨k, i, h, _, h2, h3⟩
      · exact .inl ⟨h, rfl⟩
      · exact .inr ⟨k, by rw [h]; congr 2; simp at h3; omega⟩) (by omega) (by omega) (by omega) (by omega)
    simp only [Instr.slice, Sem.run_bind, ht.runU, Result.andThen_ok, hd, this, he.runS]
    simp
  · obtain ⟨m', hm1, hm2, hm3⟩ : ∃ m' : Int, ((mx = none ∧ m' = cap) ∨ ∃ k, mx = some (.int k m')) ∧ h ≤ m' ∧ m' ≤ cap := by
      rcases hmx with ⟨h', _⟩ | ⟨k, i, h', _, h2', h3⟩
      · exact ⟨cap, .inl ⟨h', rfl⟩, by omega, by omega⟩
      · exact ⟨i, .inr ⟨k, h'⟩, h2', by omega⟩
    refine ⟨.slice (some ⟨b, if m'.toNat = l.toNat then off else off + l.toNat * ed.size, none⟩) (h.toNat - l.toNat) (m'.toNat - l.toNat), ?_, ?_⟩
    · rw [e1]
      have := run_sliceBounds (P := P) (w := w) true ls.length cap lo hi mx l h m' hlo hhi hm1 h0 h1 hm2 hm3
      simp only [Instr.slice, Sem.run_bind, ht.runU, Result.andThen_ok, hd, this, he.runS, Sem.run_pure]
      rw [add_if _ rfl]
    · have hlen : ((ls.drop l.toNat).take (h.toNat - l.toNat)).length = h.toNat - l.toNat := by simp; omega
      simp only [DR]
      refine .inr ⟨b, _, m'.toNat - l.toNat, arr, ty, fz, by rw [hlen], by omega, hb, hh, fun i a hi => ?_⟩
      have hlt : i < h.toNat - l.toNat := hlen ▸ (List.getElem?_eq_some_iff.1 hi).1
      rw [List.getElem?_take, if_pos hlt, List.getElem?_drop] at hi
      obtain ⟨g1, g2⟩ := hr _ a hi
      refine ⟨g1, ?_⟩
      rw [if_neg (by omega)]
      rwa [Nat.add_assoc, ← Nat.add_mul]

theorem take_all {α : Type} {l : List α} {n : Nat} (h : n = l.length) : l.take n = l := by subst h; simp

theorem sliceQ_sound {P : Program} {io : Keys} {F : Nat → Prop} {w : World} {t e : TypeId} {td ed : TyD} (ht : TyOk P t td) (hd : td.desc = .slice e) (he : TyOk P e ed) {x : V} {v : Value} (hx : VR io F w x v) (lo hi mx : Option Value) (lo' hi' mx' : Option Int) (hlo : (lo = none ∧ lo' = none) ∨ ∃ k l, lo = some (.int k l) ∧ lo' = some l) (hhi : (hi = none ∧ hi' = none) ∨ ∃ k h, hi = some (.int k h) ∧ hi' = some h) (hmx : (mx = none ∧ mx' = none) ∨ ∃ k h, mx = some (.int k h) ∧ mx' = some h) {m : Bool} {C : Prop} {r : V} (hq : sliceQ m ed.size x lo' hi' mx' = some (C, r)) (hC : C) :
    ∃ u, (Instr.sliceAt t v lo hi mx).run P w = .ok u w ∧ VR io F w r u := by
  have e1 : ∀ (x : Value), (Instr.sliceAt t x lo hi mx).run P w = (Instr.slice t x lo hi mx).run P w := fun x => by
    simp only [Instr.sliceAt, Sem.run_bind, ht.runU, Result.andThen_ok, hd]
  have L0 : lo' = none → lo = none := fun h => by rcases hlo with ⟨h', _⟩ | ⟨_, _, _, h'⟩; exact h'; rw [h] at h'; cases h'
  have L1 : ∀ n, lo' = some n → ∃ k, lo = some (.int k n) := fun n h => by rcases hlo with ⟨_, h'⟩ | ⟨k, l, h1, h'⟩; rw [h] at h'; cases h'; rw [h] at h'; cases h'; exact ⟨k, h1⟩
  have H0 : hi' = none → hi = none := fun h => by rcases hhi with ⟨h', _⟩ | ⟨_, _, _, h'⟩; exact h'; rw [h] at h'; cases h'
  have H1 : ∀ n, hi' = some n → ∃ k, hi = some (.int k n) := fun n h => by rcases hhi with ⟨_, h'⟩ | ⟨k, l, h1, h'⟩; rw [h] at h'; cases h'; rw [h] at h'; cases h'; exact ⟨k, h1⟩
  have M0 : mx' = none → mx = none := fun h => by rcases hmx with ⟨h', _⟩ | ⟨_, _, _, h'⟩; exact h'; rw [h] at h'; cases h'
  have M1 : ∀ n, mx' = some n → ∃ k, mx = some (.int k n) := fun n h => by rcases hmx with ⟨_, h'⟩ | ⟨k, l, h1, h'⟩; rw [h] at h'; cases h'; rw [h] at h'; cases h'; exact ⟨k, h1⟩
  unfold sliceQ at hq
  split at hq
  · rename_i sz' α en z ls
    split at hq
    · cases hq
    rename_i hsz
    have hsz := Nat.eq_of_beq_eq_true hsz
    subst hsz
    have hx' : DR F w (.sl ed.size en z ls) v := by simpa only [VR] using hx
    have A := fun l h => run_sliceSl ht hd he hx' lo hi mx l h mx'
    split at hq
    · simp only [Option.some.injEq, Prod.mk.injEq] at hq; obtain ⟨rfl, rfl⟩ := hq
      obtain ⟨u, h1, h2⟩ := A 0 ls.length (.inl ⟨L0 rfl, rfl⟩) (.inl ⟨H0 rfl, rfl, M0 rfl⟩) (.inl ⟨M0 rfl, rfl⟩) (by omega) (by omega) (by omega)
      exact ⟨u, h1, by simpa only [VR, Int.toNat_zero, List.drop_zero, Int.toNat_natCast, Nat.sub_zero, List.take_length] using h2⟩
    · rename_i h
      split at hq
      · rename_i C' h' hn
        simp only [Option.some.injEq, Prod.mk.injEq] at hq; obtain ⟨rfl, rfl⟩ := hq
        obtain ⟨g0, g1⟩ := natOf_spec hn hC.1
        have := hC.2
        simp only at g1 this
        obtain ⟨u, h1, h2⟩ := A 0 h (.inl ⟨L0 rfl, rfl⟩) (.inr (H1 _ rfl)) (.inl ⟨M0 rfl, rfl⟩) (by omega) (by omega) (by omega)
        exact ⟨u, h1, by simpa only [VR, Int.toNat_zero, List.drop_zero, g1, Nat.sub_zero] using h2⟩
      · cases hq
    · rename_i h g
      split at hq
      · rename_i C' h' hn
        simp only [Option.some.injEq, Prod.mk.injEq] at hq; obtain ⟨rfl, rfl⟩ := hq
        obtain ⟨g0, g1⟩ := natOf_spec hn hC.1
        have hC2 := hC.2
        obtain ⟨k, hk⟩ := M1 _ rfl
        obtain ⟨u, h1, h2⟩ := A 0 h (.inl ⟨L0 rfl, rfl⟩) (.inr (H1 _ rfl)) (.inr ⟨k, g, hk, rfl, hC2.1, hC2.2⟩) (by omega) (by omega) (by omega)
        exact ⟨u, h1, by simpa only [VR, Int.toNat_zero, List.drop_zero, g1, Nat.sub_zero] using h2⟩
      · cases hq
    · rename_i n
      split at hq
      · rename_i C' n' hn
        simp only [Option.some.injEq, Prod.mk.injEq] at hq; obtain ⟨rfl, rfl⟩ := hq
        obtain ⟨g0, g1⟩ := natOf_spec hn hC.1
        have := hC.2
        simp only at g1 this
        obtain ⟨u, h1, h2⟩ := A n ls.length (.inr (L1 _ rfl)) (.inl ⟨H0 rfl, rfl, M0 rfl⟩) (.inl ⟨M0 rfl, rfl⟩) (by omega) (by omega) (by omega)
        refine ⟨u, h1, ?_⟩
        simp only [VR]
        rw [g1, Int.toNat_natCast, take_all (by simp)] at h2
        exact h2
      · cases hq
    · rename_i n h
      split at hq
      · rename_i C1 n' C2 h' hn hn2
        simp only [Option.some.injEq, Prod.mk.injEq] at hq; obtain ⟨rfl, rfl⟩ := hq
        obtain ⟨c1, c2, c3, c4⟩ := hC
        obtain ⟨g0, g1⟩ := natOf_spec hn c1
        obtain ⟨g2, g3⟩ := natOf_spec hn2 c2
        simp only at g1 g3 c3 c4
        obtain ⟨u, h1, h2⟩ := A n h (.inr (L1 _ rfl)) (.inr (H1 _ rfl)) (.inl ⟨M0 rfl, rfl⟩) (by omega) (by omega) (by omega)
        exact ⟨u, h1, by simpa only [VR, g1, g3] using h2⟩
      · cases hq
    · cases hq
  · rename_i k o n ty sz'
    split at hq
    · cases hq
    rename_i hsz
    have hsz := Nat.eq_of_beq_eq_true hsz
    subst hsz
    have B : ∀ l h : Int, mx = none → 0 ≤ l → l ≤ h → h ≤ n → (l = 0 ∨ l < h) → ((lo = none ∧ l = 0) ∨ ∃ k, lo = some (.int k l)) → ((hi = none ∧ h = n) ∨ ∃ k, hi = some (.int k h)) → ∃ u, (Instr.sliceAt t v lo hi mx).run P w = .ok u w ∧ VR io F w (.own k (o + l.toNat) (h.toNat - l.toNat) ty ed.size) u := fun l h hm h0 h1 h2 hor hl hh => by
      simp only [VR] at hx
      rcases hx with ⟨hk, rfl, hn0, ho0⟩ | ⟨b, cap, arr, hk, rfl, hc, hm', hb, hs, hln⟩
      · subst hn0 ho0
        have : h = 0 := by omega
        have hl0 : l = 0 := by omega
        subst this hl0
        refine ⟨.slice none 0 0, ?_, by simp [VR, hk]⟩
        rw [e1]
        have := run_sliceBounds (P := P) (w := w) true 0 0 lo hi mx 0 0 0 hl (by rcases hh with ⟨g, _⟩ | g; exact .inl ⟨g, rfl, hm⟩; exact .inr g) (.inl ⟨hm, rfl⟩) (by omega) (by omega) (by omega) (by omega)
        simp only [Instr.slice, Sem.run_bind, ht.runU, Result.andThen_ok, hd, this, he.runS]
        simp
      · refine ⟨.slice (some ⟨b, (o + l.toNat) * ed.size, none⟩) (h.toNat - l.toNat) (cap - l.toNat), ?_, ?_⟩
        · rw [e1]
          have := run_sliceBounds (P := P) (w := w) true n cap lo hi mx l h cap hl (by rcases hh with ⟨g, g'⟩ | g; exact .inl ⟨g, g', hm⟩; exact .inr g) (.inl ⟨hm, rfl⟩) h0 h1 (by omega) (by omega)
          simp only [Instr.slice, Sem.run_bind, ht.runU, Result.andThen_ok, hd, this, he.runS, Sem.run_pure]
          rw [add_if _ rfl]
          simp only [Int.toNat_natCast]
          congr 3
          rw [Nat.add_mul]
          split
          · rename_i hcl
            have : l = 0 := by omega
            subst this; simp
          · rfl
        · simp only [VR]
          exact .inr ⟨b, cap - l.toNat, arr, hk, rfl, by omega, by omega, hb, by rw [hs]; congr 1; omega, by omega⟩
    split at hq
    · simp only [Option.some.injEq, Prod.mk.injEq] at hq; obtain ⟨rfl, rfl⟩ := hq
      obtain ⟨u, h1, h2⟩ := B 0 n (M0 rfl) (by omega) (by omega) (by omega) (.inl rfl) (.inl ⟨L0 rfl, rfl⟩) (.inl ⟨H0 rfl, rfl⟩)
      exact ⟨u, h1, by simpa using h2⟩
    · rename_i h
      split at hq
      · rename_i C' h' hn
        simp only [Option.some.injEq, Prod.mk.injEq] at hq; obtain ⟨rfl, rfl⟩ := hq
        obtain ⟨g0, g1⟩ := natOf_spec hn hC.1
        have := hC.2
        simp only at g1 this
        obtain ⟨u, h1, h2⟩ := B 0 h (M0 rfl) (by omega) (by omega) (by omega) (.inl rfl) (.inl ⟨L0 rfl, rfl⟩) (.inr (H1 _ rfl))
        exact ⟨u, h1, by simpa [g1] using h2⟩
      · cases hq
    · rename_i a
      split at hq
      · rename_i C' a' hn
        simp only [Option.some.injEq, Prod.mk.injEq] at hq; obtain ⟨rfl, rfl⟩ := hq
        obtain ⟨g0, g1⟩ := natOf_spec hn hC.1
        have := hC.2
        simp only at g1 this
        obtain ⟨u, h1, h2⟩ := B a n (M0 rfl) (by omega) (by omega) (by omega) (.inr (by omega)) (.inr (L1 _ rfl)) (.inl ⟨H0 rfl, rfl⟩)
        exact ⟨u, h1, by simpa [g1, plus0_eq] using h2⟩
      · cases hq
    · rename_i a h
      split at hq
      · rename_i C1 a' C2 h' hn hn2
        simp only [Option.some.injEq, Prod.mk.injEq] at hq; obtain ⟨rfl, rfl⟩ := hq
        obtain ⟨c1, c2, c3, c4⟩ := hC
        obtain ⟨g0, g1⟩ := natOf_spec hn c1
        obtain ⟨g2, g3⟩ := natOf_spec hn2 c2
        simp only at g1 g3 c3 c4
        obtain ⟨u, h1, h2⟩ := B a h (M0 rfl) (by omega) (by omega) (by omega) (.inr (by omega)) (.inr (L1 _ rfl)) (.inr (H1 _ rfl))
        exact ⟨u, h1, by simpa [g1, g3, plus0_eq] using h2⟩
      · cases hq
    · cases hq
  · have hv : v = .slice none 0 0 := by simpa only [VR, DR] using hx
    subst hv
    have Z : ∀ h : Int, h = 0 → mx = none → lo = none → ((hi = none ∧ h = 0) ∨ ∃ k, hi = some (.int k h)) → ∃ u, (Instr.sliceAt t (.slice none 0 0) lo hi mx).run P w = .ok u w ∧ VR io F w (.d .nils) u := fun h h0 hm hl hh => by
      subst h0
      refine ⟨.slice none 0 0, ?_, by simp only [VR, DR]⟩
      rw [e1]
      have := run_sliceBounds (P := P) (w := w) true 0 0 lo hi mx 0 0 0 (.inl ⟨hl, rfl⟩) (by rcases hh with ⟨g, _⟩ | g; exact .inl ⟨g, rfl, hm⟩; exact .inr g) (.inl ⟨hm, rfl⟩) (by omega) (by omega) (by omega) (by omega)
      simp only [Instr.slice, Sem.run_bind, ht.runU, Result.andThen_ok, hd, this, he.runS]
      simp
    split at hq
    · simp only [Option.some.injEq, Prod.mk.injEq] at hq; obtain ⟨rfl, rfl⟩ := hq
      exact Z 0 rfl (M0 rfl) (L0 rfl) (.inl ⟨H0 rfl, rfl⟩)
    · rename_i h
      simp only [Option.some.injEq, Prod.mk.injEq] at hq; obtain ⟨rfl, rfl⟩ := hq
      exact Z h hC (M0 rfl) (L0 rfl) (.inr (H1 _ rfl))
    · cases hq
  · cases hq

theorem size_mk (b : List UInt8) : (⟨b.toArray⟩ : ByteArray).size = b.length := by simp [ByteArray.size]
theorem extract_mk (b : List UInt8) (l h : Nat) : (⟨b.toArray⟩ : ByteArray).extract l h = ⟨((b.drop l).take (h - l)).toArray⟩ := by
  apply ByteArray.ext
  rw [ByteArray.data_extract]
  simp [List.extract_eq_take_drop]

theorem strQ_sound {P : Program} {io : Keys} {F : Nat → Prop} {w : World} {t : TypeId} {td : TyD} (ht : TyOk P t td) (hd : td.desc = .string) {b : List UInt8} (lo hi : Option Value) (lo' hi' : Option Int) (hlo : (lo = none ∧ lo' = none) ∨ ∃ k l, lo = some (.int k l) ∧ lo' = some l) (hhi : (hi = none ∧ hi' = none) ∨ ∃ k h, hi = some (.int k h) ∧ hi' = some h) {m : Bool} {C : Prop} {r : V} (hq : strQ m b lo' hi' = some (C, r)) (hC : C) :
    ∃ u, (Instr.sliceAt t (.string ⟨b.toArray⟩) lo hi none).run P w = .ok u w ∧ VR io F w r u := by
  have e1 : ∀ (x : Value), (Instr.sliceAt t x lo hi none).run P w = (Instr.slice t x lo hi none).run P w := fun x => by
    simp only [Instr.sliceAt, Sem.run_bind, ht.runU, Result.andThen_ok, hd]
  have L0 : lo' = none → lo = none := fun h => by rcases hlo with ⟨h', _⟩ | ⟨_, _, _, h'⟩; exact h'; rw [h] at h'; cases h'
  have L1 : ∀ n, lo' = some n → ∃ k, lo = some (.int k n) := fun n h => by rcases hlo with ⟨_, h'⟩ | ⟨k, l, h1, h'⟩; rw [h] at h'; cases h'; rw [h] at h'; cases h'; exact ⟨k, h1⟩
  have H0 : hi' = none → hi = none := fun h => by rcases hhi with ⟨h', _⟩ | ⟨_, _, _, h'⟩; exact h'; rw [h] at h'; cases h'
  have H1 : ∀ n, hi' = some n → ∃ k, hi = some (.int k n) := fun n h => by rcases hhi with ⟨_, h'⟩ | ⟨k, l, h1, h'⟩; rw [h] at h'; cases h'; rw [h] at h'; cases h'; exact ⟨k, h1⟩
  have A : ∀ l h : Int, 0 ≤ l → l ≤ h → h ≤ b.length → ((lo = none ∧ l = 0) ∨ ∃ k, lo = some (.int k l)) → ((hi = none ∧ h = b.length) ∨ ∃ k, hi = some (.int k h)) → ∃ u, (Instr.sliceAt t (.string ⟨b.toArray⟩) lo hi none).run P w = .ok u w ∧ VR io F w (.d (.str ((b.drop l.toNat).take (h.toNat - l.toNat)))) u := fun l h h0 h1 h2 hl hh => by
    refine ⟨.string ⟨((b.drop l.toNat).take (h.toNat - l.toNat)).toArray⟩, ?_, by simp only [VR, DR]⟩
    rw [e1]
    have := run_sliceBounds (P := P) (w := w) false b.length b.length lo hi none l h b.length hl (by rcases hh with ⟨g, g'⟩ | g; exact .inl ⟨g, g', rfl⟩; exact .inr g) (.inl ⟨rfl, rfl⟩) h0 h1 h2 (by omega)
    simp only [Instr.slice, Sem.run_bind, ht.runU, Result.andThen_ok, hd, Option.isSome_none, Bool.false_eq_true, if_false, size_mk]
    simp only [Sem.run_pure, Sem.run_bind, Result.andThen_ok, this, extract_mk]
  unfold strQ at hq
  split at hq
  · simp only [Option.some.injEq, Prod.mk.injEq] at hq; obtain ⟨rfl, rfl⟩ := hq
    obtain ⟨u, h1, h2⟩ := A 0 b.length (by omega) (by omega) (by omega) (.inl ⟨L0 rfl, rfl⟩) (.inl ⟨H0 rfl, rfl⟩)
    exact ⟨u, h1, by simpa only [Int.toNat_zero, List.drop_zero, Int.toNat_natCast, Nat.sub_zero, List.take_length] using h2⟩
  · rename_i n
    split at hq
    · rename_i C' n' hn
      simp only [Option.some.injEq, Prod.mk.injEq] at hq; obtain ⟨rfl, rfl⟩ := hq
      obtain ⟨g0, g1⟩ := natOf_spec hn hC.1
      have := hC.2
      simp only at g1 this
      obtain ⟨u, h1, h2⟩ := A n b.length (by omega) (by omega) (by omega) (.inr (L1 _ rfl)) (.inl ⟨H0 rfl, rfl⟩)
      refine ⟨u, h1, ?_⟩
      rw [g1, Int.toNat_natCast, take_all (by simp)] at h2
      exact h2
    · cases hq
  · rename_i h
    split at hq
    · rename_i C' h' hn
      simp only [Option.some.injEq, Prod.mk.injEq] at hq; obtain ⟨rfl, rfl⟩ := hq
      obtain ⟨g0, g1⟩ := natOf_spec hn hC.1
      have := hC.2
      simp only at g1 this
      obtain ⟨u, h1, h2⟩ := A 0 h (by omega) (by omega) (by omega) (.inl ⟨L0 rfl, rfl⟩) (.inr (H1 _ rfl))
      exact ⟨u, h1, by simpa only [Int.toNat_zero, List.drop_zero, g1, Nat.sub_zero] using h2⟩
    · cases hq
  · rename_i n h
    split at hq
    · rename_i C1 n' C2 h' hn hn2
      simp only [Option.some.injEq, Prod.mk.injEq] at hq; obtain ⟨rfl, rfl⟩ := hq
      obtain ⟨c1, c2, c3, c4⟩ := hC
      obtain ⟨g0, g1⟩ := natOf_spec hn c1
      obtain ⟨g2, g3⟩ := natOf_spec hn2 c2
      simp only at g1 g3 c3 c4
      obtain ⟨u, h1, h2⟩ := A n h (by omega) (by omega) (by omega) (.inr (L1 _ rfl)) (.inr (H1 _ rfl))
      exact ⟨u, h1, by simpa only [g1, g3] using h2⟩
    · cases hq
end Go.Vw
