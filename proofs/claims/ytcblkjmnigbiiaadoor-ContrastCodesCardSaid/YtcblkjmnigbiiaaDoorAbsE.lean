/-
  What evalQ says of an operation is what the machine does: all operations. Conditions: the table of types is the program's.
-/
import Derived.Test.YtcblkjmnigbiiaaDoorAbsD
set_option autoImplicit false
set_option linter.unusedSimpArgs false
namespace Go.Ab
open Go.RowKit

theorem run_sliceBound {P : Program} {w : World} {k : IntKind} {n : Int} {y : Nat} (code : BoundsCode) (h0 : 0 ≤ n) (h1 : n ≤ y) : (Instr.sliceBound (.int k n) y code).run P w = .ok n.toNat w := by
  simp only [Instr.sliceBound, asIntOf, Sem.run_bind, Sem.run_pure, Result.andThen_ok]
  rw [if_pos ⟨h0, h1⟩]; rfl

/-- The bounds of a slice expression: what they come to. -/
theorem run_sliceBounds {P : Program} {w : World} (isS : Bool) (n cap : Nat) (lo hi : Option Value) (l h : Int) (hlo : (lo = none ∧ l = 0) ∨ ∃ k, lo = some (.int k l)) (hhi : (hi = none ∧ h = n) ∨ ∃ k, hi = some (.int k h)) (h0 : 0 ≤ l) (h1 : l ≤ h) (h2 : h ≤ n) (h3 : n ≤ cap) :
    (Instr.sliceBounds isS n cap lo hi none).run P w = .ok (l.toNat, h.toNat, cap) w := by
  rcases hlo with ⟨rfl, rfl⟩ | ⟨k, rfl⟩ <;> rcases hhi with ⟨rfl, rfl⟩ | ⟨k', rfl⟩ <;>
    simp only [Instr.sliceBounds, Sem.run_bind, Sem.run_pure, Result.andThen_ok, Option.isSome_none]
  · simp
  · rw [run_sliceBound _ (by omega) (by omega)]; simp
  · rw [run_sliceBound _ (by omega) (by omega)]; simp
  · rw [run_sliceBound _ (by omega) (by omega)]
    simp only [Result.andThen_ok]
    rw [run_sliceBound _ (by omega) (by omega)]; simp

theorem RowAt.drop {arr : Array Value} {off : Nat} {vals : List Value} (h : RowAt arr off vals) (n : Nat) : RowAt arr (off + n) (vals.drop n) := fun j v hj => by
  have := h (n + j) v (by simpa [List.getElem?_drop] using hj)
  rw [Nat.add_assoc]; exact this
theorem RowAt.take {arr : Array Value} {off : Nat} {vals : List Value} (h : RowAt arr off vals) (n : Nat) : RowAt arr off (vals.take n) := fun j v hj => by
  rw [List.getElem?_take] at hj
  split at hj
  · exact h j v hj
  · cases hj

theorem add_if (a : Addr) (h : a.spot = none) (m l n : Nat) : (if m = l then (some a : Option Addr) else (some a : Option Addr).map (·.add n)) = some ⟨a.block, if m = l then a.off else a.off + n, none⟩ := by
  obtain ⟨b, o, sp⟩ := a
  simp at h; subst h
  split
  · rfl
  · simp [add_plain]

theorem run_sliceSl {P : Program} {F : Nat → Prop} {w : World} {t e : TypeId} {td ed : TyD} (ht : TyOk P t td) (hd : td.desc = .slice e) (he : TyOk P e ed) {n : Nat} {cs : List D} {v : Value} (hx : DR F w (.sl n cs) v) (lo hi : Option Value) (l h : Int) (hlo : (lo = none ∧ l = 0) ∨ ∃ k, lo = some (.int k l)) (hhi : (hi = none ∧ h = n) ∨ ∃ k, hi = some (.int k h)) (h0 : 0 ≤ l) (h1 : l ≤ h) (h2 : h ≤ n) :
    ∃ u, (Instr.sliceAt t v lo hi none).run P w = .ok u w ∧ DR F w (.sl (h - l).toNat ((cs.drop (l.toNat * ed.size)).take ((h - l).toNat * ed.size))) u := by
  have e1 : ∀ (x : Value), (Instr.sliceAt t x lo hi none).run P w = (Instr.slice t x lo hi none).run P w := fun x => by
    simp only [Instr.sliceAt, Sem.run_bind, ht.runU, Result.andThen_ok, hd]
  simp only [DR] at hx
  rcases hx with ⟨rfl, rfl, rfl⟩ | ⟨b, off, cap, arr, ty, fz, vals, rfl, hc, hb, hh, hr, hl⟩
  · have hl0 : l = 0 := by omega
    have hh0 : h = 0 := by omega
    subst hl0 hh0
    refine ⟨.slice none 0 0, ?_, ?_⟩
    · rw [e1]
      simp only [Instr.slice, Sem.run_bind, ht.runU, Result.andThen_ok, hd]
      rw [run_sliceBounds true 0 0 lo hi 0 0 hlo hhi (by omega) (by omega) (by omega) (by omega)]
      simp only [Result.andThen_ok, he.runS]
      simp
    · simp only [DR]; exact .inl (by simp)
  · refine ⟨.slice (some ⟨b, if cap = l.toNat then off else off + l.toNat * ed.size, none⟩) (h.toNat - l.toNat) (cap - l.toNat), ?_, ?_⟩
    · rw [e1]
      simp only [Instr.slice, Sem.run_bind, ht.runU, Result.andThen_ok, hd]
      rw [run_sliceBounds true n cap lo hi l h hlo hhi h0 h1 h2 hc]
      simp only [Result.andThen_ok, he.runS, Sem.run_pure]
      rw [add_if _ rfl]
    · simp only [DR]
      refine .inr ⟨b, _, cap - l.toNat, arr, ty, fz, if cap = l.toNat then [] else (vals.drop (l.toNat * ed.size)).take ((h - l).toNat * ed.size), by rw [show (h - l).toNat = h.toNat - l.toNat by omega], by omega, hb, hh, ?_, ?_⟩
      · split
        · intro j v hj; simp at hj
        · exact (hr.drop _).take _
      · split
        · rename_i hcl
          have : (h - l).toNat = 0 := by omega
          rw [this]; simp [DRL]
        · exact DRL.take _ (DRL.drop _ hl)

theorem sliceQ_sound {P : Program} {io : Nat → Option Nat} {F : Nat → Prop} {w : World} {t e : TypeId} {td ed : TyD} (ht : TyOk P t td) (hd : td.desc = .slice e) (he : TyOk P e ed) {x : V} {v : Value} (hx : VR io F w x v) (lo hi : Option Value) (lo' hi' : Option Int) (hlo : (lo = none ∧ lo' = none) ∨ ∃ k l, lo = some (.int k l) ∧ lo' = some l) (hhi : (hi = none ∧ hi' = none) ∨ ∃ k h, hi = some (.int k h) ∧ hi' = some h) {C : Prop} {r : V} (hq : sliceQ ed.size x lo' hi' = some (C, r)) (hC : C) :
    ∃ u, (Instr.sliceAt t v lo hi none).run P w = .ok u w ∧ VR io F w r u := by
  have A : ∀ n cs, DR F w (.sl n cs) v → 0 ≤ lo'.getD 0 ∧ lo'.getD 0 ≤ hi'.getD n ∧ hi'.getD n ≤ n → ∃ u, (Instr.sliceAt t v lo hi none).run P w = .ok u w ∧ VR io F w (.d (.sl (hi'.getD n - lo'.getD 0).toNat ((cs.drop ((lo'.getD 0).toNat * ed.size)).take ((hi'.getD n - lo'.getD 0).toNat * ed.size)))) u := fun n cs hx hC => by
    obtain ⟨u, h1, h2⟩ := run_sliceSl ht hd he hx lo hi (lo'.getD 0) (hi'.getD n) (by
      rcases hlo with ⟨rfl, rfl⟩ | ⟨k, l, rfl, rfl⟩
      · exact .inl ⟨rfl, rfl⟩
      · exact .inr ⟨k, rfl⟩) (by
      rcases hhi with ⟨rfl, rfl⟩ | ⟨k, l, rfl, rfl⟩
      · exact .inl ⟨rfl, rfl⟩
      · exact .inr ⟨k, rfl⟩) hC.1 hC.2.1 hC.2.2
    exact ⟨u, h1, by simpa only [VR] using h2⟩
  unfold sliceQ at hq
  split at hq
  · rename_i n cs
    have hx' : DR F w (.sl n cs) v := by simpa only [VR] using hx
    cases lo' <;> cases hi' <;> simp only [Option.some.injEq, Prod.mk.injEq] at hq <;> obtain ⟨rfl, rfl⟩ := hq
    · simpa using A n cs hx' ⟨by simp, by simp, by simp⟩
    · have := A n cs hx' ⟨by simp, by simpa using hC.1, by simpa using hC.2⟩
      simpa using this
    · have := A n cs hx' ⟨by simpa using hC.1, by simpa using hC.2, by simp⟩
      simpa using this
    · have := A n cs hx' ⟨by simpa using hC.1, by simpa using hC.2.1, by simpa using hC.2.2⟩
      simpa using this
  · rename_i k n ty sz
    have e1 : ∀ (x : Value), (Instr.sliceAt t x lo hi none).run P w = (Instr.slice t x lo hi none).run P w := fun x => by
      simp only [Instr.sliceAt, Sem.run_bind, ht.runU, Result.andThen_ok, hd]
    split at hq
    · rcases hlo with ⟨rfl, _⟩ | ⟨_, _, _, h⟩
      rotate_left
      · cases h
      have B : ∀ h : Int, 0 ≤ h → h ≤ n → ((hi = none ∧ h = n) ∨ ∃ k, hi = some (.int k h)) → ∃ u, (Instr.sliceAt t v none hi none).run P w = .ok u w ∧ VR io F w (.own k h.toNat ty sz) u := fun h h0 h1 hh => by
        simp only [VR] at hx
        rcases hx with ⟨hk, rfl, rfl⟩ | ⟨b, cap, arr, hk, rfl, hc, hm, hb, hs⟩
        · have : h = 0 := by omega
          subst this
          refine ⟨.slice none 0 0, ?_, ?_⟩
          · rw [e1]
            simp only [Instr.slice, Sem.run_bind, ht.runU, Result.andThen_ok, hd]
            rw [run_sliceBounds true 0 0 none hi 0 0 (.inl ⟨rfl, rfl⟩) hh (by omega) (by omega) (by omega) (by omega)]
            simp only [Result.andThen_ok, he.runS]
            simp
          · simp [VR, hk]
        · refine ⟨.slice (some ⟨b, 0, none⟩) h.toNat cap, ?_, ?_⟩
          · rw [e1]
            simp only [Instr.slice, Sem.run_bind, ht.runU, Result.andThen_ok, hd]
            rw [run_sliceBounds true n cap none hi 0 h (.inl ⟨rfl, rfl⟩) hh (by omega) (by omega) (by omega) (by omega)]
            simp only [Result.andThen_ok, he.runS, Sem.run_pure]
            rw [add_if _ rfl]
            simp
          · simp only [VR]; exact .inr ⟨b, cap, arr, hk, rfl, by omega, hm, hb, hs⟩
      split at hq
      · simp only [Option.some.injEq, Prod.mk.injEq] at hq
        obtain ⟨rfl, rfl⟩ := hq
        rcases hhi with ⟨rfl, _⟩ | ⟨_, _, _, h⟩
        rotate_left
        · cases h
        exact B n (by omega) (by omega) (.inl ⟨rfl, rfl⟩)
      · simp only [Option.some.injEq, Prod.mk.injEq] at hq
        obtain ⟨rfl, rfl⟩ := hq
        rcases hhi with ⟨_, h⟩ | ⟨k', h', rfl, h⟩
        · cases h
        simp only [Option.some.injEq] at h; subst h
        exact B _ hC.1 hC.2 (.inr ⟨k', rfl⟩)
    · cases hq
  · cases hq

/-- The run of an operation that yields a value. -/
def Yields (P : Program) (a : Act) (o : Oper) (w : World) (v : Value) : Prop := (execOp a.eval o).run P w = .ok (.value v) w

theorem yields_of {P : Program} {w : World} {m : Sem Value} {v : Value} (h : m.run P w = .ok v w) : (do pure (Next.value (← m)) : Sem Next).run P w = .ok (.value v) w := by
  simp [h]

set_option maxHeartbeats 1000000 in
theorem evalQ_sound {X : Ctx} {T : TypeId → Option TyD} (hT : TabOk X.P T) {io : Nat → Option Nat} {F : Nat → Prop} {s : St} {a : Act} {w : World} (hs : SR X io F s a w) (o : Oper) {C : Prop} {x : V} (h : evalQ T s o.op = some (C, x)) (hC : C) : ∃ v, Yields X.P a o w v ∧ VR io F w x v := by
  obtain ⟨dst, op, ty, pos, after, guard⟩ := o
  cases op <;> simp only [evalQ] at h <;> try (cases h; done)
  case move y =>
    simp only [Option.some.injEq, Prod.mk.injEq] at h; obtain ⟨rfl, rfl⟩ := h
    exact ⟨a.eval y, rfl, hs.opd y⟩
  case assign y =>
    simp only [Option.some.injEq, Prod.mk.injEq] at h; obtain ⟨rfl, rfl⟩ := h
    exact ⟨a.eval y, rfl, hs.opd y⟩
  case pick c y z =>
    split at h
    · rename_i t hc
      simp only [Option.some.injEq, Prod.mk.injEq] at h; obtain ⟨rfl, rfl⟩ := h
      have hb := hs.opd c
      rw [hc] at hb
      simp only [VR, DR] at hb
      refine ⟨if t then a.eval y else a.eval z, ?_, ?_⟩
      · simp [Yields, execOp, hb, asBool]
      · cases t
        · exact hs.opd z
        · exact hs.opd y
    · cases h
  case binOp op xt y z yt =>
    split at h
    · rename_i p q dd hp hq hd
      split at h
      · rename_i C' r hb
        simp only [Option.some.injEq, Prod.mk.injEq] at h; obtain ⟨rfl, rfl⟩ := h
        have h1 := hs.opd y
        have h2 := hs.opd z
        rw [hp] at h1; rw [hq] at h2
        simp only [VR] at h1 h2
        obtain ⟨v, hr, hv⟩ := run_bin (P := X.P) op xt y z (hT _ _ hd) hC.2 h1 h2 hb hC.1
        exact ⟨v, yields_of hr, by simpa only [VR] using hv⟩
      · cases h
    · cases h
  case unOp op xt y =>
    split at h
    · rename_i p hp
      split at h
      · rename_i C' r hb
        simp only [Option.some.injEq, Prod.mk.injEq] at h; obtain ⟨rfl, rfl⟩ := h
        have h1 := hs.opd y
        rw [hp] at h1
        simp only [VR] at h1
        obtain ⟨v, hr, hv⟩ := run_un (P := X.P) op h1 hb
        exact ⟨v, yields_of hr, by simpa only [VR] using hv⟩
      · cases h
    · cases h
  case convert src dst' y =>
    split at h
    · rename_i sd dd k n h1 h2 h3
      split at h
      · rename_i k' hk
        simp only [Option.some.injEq, Prod.mk.injEq] at h; obtain ⟨rfl, rfl⟩ := h
        have hy := hs.opd y
        rw [h3] at hy
        simp only [VR, DR] at hy
        have hu := (hT _ _ h2).runU w
        rw [hk] at hu
        refine ⟨.int k' (k'.wrap n), yields_of ?_, by simp only [VR, DR]⟩
        simp only [convert, Sem.run_bind, (hT _ _ h1).runU, hu, hy, Result.andThen_ok]
        rfl
      · cases h
    · cases h
  case field t y f =>
    split at h
    · rename_i td cs h1 h2
      split at h
      · rename_i fs hf
        split at h
        · rename_i fd hfd
          split at h
          · rename_i dd hdd
            simp only [Option.some.injEq, Prod.mk.injEq] at h; obtain ⟨rfl, rfl⟩ := h
            obtain ⟨arr, e, hl⟩ := aggCells_sound h2 (hs.opd y)
            obtain ⟨v, hr, hv⟩ := part_sound (P := X.P) (hT _ _ hdd) (o := fd.offset) hl hC
            refine ⟨v, yields_of ?_, hv⟩
            have hu := (hT _ _ h1).runU w
            rw [hf] at hu
            simp only [Instr.field, Sem.run_bind, hu, Result.andThen_ok, hfd, e, asAgg, Sem.run_pure, hr]
          · cases h
        · cases h
      · cases h
    · cases h
  case fieldAddr t y f =>
    split at h
    · rename_i td h1
      split at h
      · rename_i fs hf
        split at h
        · rename_i fd hfd
          split at h
          · rename_i dd hdd
            split at h
            · cases h
            · rename_i hz
              have hu := (hT _ _ h1).runU w
              rw [hf] at hu
              have run : ∀ b o, a.eval y = .pointer (some ⟨b, o, none⟩) → (Instr.fieldAt t (a.eval y) f).run X.P w = .ok (.pointer (some ⟨b, o + fd.offset, none⟩)) w := fun b o e => by
                simp only [Instr.fieldAt, Sem.run_bind, hu, Result.andThen_ok, hfd, e, Instr.sureAddr, Sem.run_pure, fieldPlace, (hT _ _ hdd).runS, if_neg hz, add_plain]
              have hy := hs.opd y
              split at h
              · rename_i k o hk
                simp only [Option.some.injEq, Prod.mk.injEq] at h; obtain ⟨rfl, rfl⟩ := h
                rw [hk] at hy
                simp only [VR] at hy
                obtain ⟨b, hb, e⟩ := hy
                exact ⟨_, yields_of (run b o e), by simp only [VR]; exact ⟨b, hb, rfl⟩⟩
              · rename_i cs o hk
                simp only [Option.some.injEq, Prod.mk.injEq] at h; obtain ⟨rfl, rfl⟩ := h
                rw [hk] at hy
                simp only [VR] at hy
                obtain ⟨b, off, arr, ty', fz, vals, e, hb, hh, hr, hl⟩ := hy
                exact ⟨_, yields_of (run b _ e), by simp only [VR]; exact ⟨b, off, arr, ty', fz, vals, by rw [Nat.add_assoc], hb, hh, hr, hl⟩⟩
              · cases h
          · cases h
        · cases h
      · cases h
    · cases h
  case indexAddr t y i =>
    split at h
    · rename_i td n h1 h2
      split at h
      · rename_i e he
        split at h
        · rename_i ed hed
          have hu := (hT _ _ h1).runU w
          rw [he] at hu
          obtain ⟨k, hk⟩ := intOfV_sound h2 (hs.opd i)
          have run : ∀ b off len cap, a.eval y = .slice (some ⟨b, off, none⟩) len cap → 0 ≤ n → n < len → (Instr.indexAt t (a.eval y) (a.eval i)).run X.P w = .ok (.pointer (some ⟨b, off + n.toNat * ed.size, none⟩)) w := fun b off len cap e h0 h1 => by
            simp only [Instr.indexAt, hk, asIntOf, Sem.run_bind, Sem.run_pure, Result.andThen_ok, hu, e, (hT _ _ hed).runS, add_plain]
            rw [if_pos ⟨h0, h1⟩]
            simp only [Sem.run_bind, (hT _ _ hed).runS, Result.andThen_ok, Sem.run_pure, add_plain]
          have hy := hs.opd y
          have sl : ∀ (len : Nat) cs, DR F w (.sl len cs) (a.eval y) → 0 ≤ n → n < len → ∃ v, Yields X.P a ⟨dst, .indexAddr t y i, ty, pos, after, guard⟩ w v ∧ VR io F w (.iptr cs (n.toNat * ed.size)) v := fun len cs hd h0 h1 => by
            simp only [DR] at hd
            rcases hd with ⟨_, rfl, _⟩ | ⟨b, off, cap, arr, ty', fz, vals, e, hc, hb, hh, hr, hl⟩
            · simp at h1; omega
            · exact ⟨_, yields_of (run b off len cap e h0 h1), by simp only [VR]; exact ⟨b, off, arr, ty', fz, vals, rfl, hb, hh, hr, hl⟩⟩
          split at h
          · rename_i len cs hx
            simp only [Option.some.injEq, Prod.mk.injEq] at h; obtain ⟨rfl, rfl⟩ := h
            rw [hx] at hy
            exact sl len cs (by simpa only [VR] using hy) hC.1 hC.2
          · rename_i k' len ty' sz' hx
            simp only [Option.some.injEq, Prod.mk.injEq] at h; obtain ⟨rfl, rfl⟩ := h
            rw [hx] at hy
            simp only [VR] at hy
            rcases hy with ⟨_, _, rfl⟩ | ⟨b, cap, arr, hb, e, _⟩
            · have := hC.2; simp at this; omega
            · exact ⟨_, yields_of (run b 0 len cap e hC.1 hC.2), by simp only [VR]; exact ⟨b, hb, by simp⟩⟩
          · cases h
        · cases h
      · cases h
    · cases h
  case index t y i =>
    split at h
    · rename_i td n b h1 h2 h3
      split at h
      · rename_i hd
        simp only [Option.some.injEq, Prod.mk.injEq] at h; obtain ⟨rfl, rfl⟩ := h
        have hu := (hT _ _ h1).runU w
        rw [hd] at hu
        obtain ⟨k, hk⟩ := intOfV_sound h2 (hs.opd i)
        have hy := hs.opd y
        rw [h3] at hy
        simp only [VR, DR] at hy
        have hlt : n.toNat < b.size := by omega
        refine ⟨.int .u8 (b.data.getD n.toNat 0).toNat, yields_of ?_, by simp only [VR, DR]⟩
        simp only [Instr.index, hk, asIntOf, Sem.run_bind, Sem.run_pure, Result.andThen_ok, hu, hy]
        have hg : b[n.toNat]? = some (b.data.getD n.toNat 0) := by
          rw [getElem?_pos b n.toNat hlt]
          congr 1
          have : n.toNat < b.data.size := hlt
          rw [Array.getD_eq_getD_getElem?, Array.getElem?_eq_getElem this]
          rfl
        rw [if_pos hC.1, hg]
        rfl
      · cases h
    · cases h
  case load t y =>
    split at h
    · rename_i td k o h1 h2
      have hy := hs.opd y
      rw [h2] at hy
      simp only [VR] at hy
      obtain ⟨b, hb, e⟩ := hy
      split at h
      · rename_i ty' cs hk
        simp only [Option.some.injEq, Prod.mk.injEq] at h; obtain ⟨rfl, rfl⟩ := h
        have hbr := hs.bl k _ hk
        simp only [BR] at hbr
        rcases hbr with ⟨hn, _⟩ | ⟨b', arr, vals, hb', _, _, hh, hr, hl⟩
        · rw [hn] at hb; cases hb
        · rw [hb'] at hb; cases hb
          obtain ⟨v, hv, hd⟩ := takeD_sound (P := X.P) (hT _ _ h1) (o := o) hh hr hl hC
          refine ⟨v, yields_of ?_, by simpa only [VR] using hd⟩
          simpa only [Instr.loadAt, e, Instr.sureAddr, Sem.run_bind, Sem.run_pure, Result.andThen_ok, Nat.zero_add] using hv
      · rename_i ty' cs hk
        simp only [Option.some.injEq, Prod.mk.injEq] at h; obtain ⟨rfl, rfl⟩ := h
        have hbr := hs.bl k _ hk
        simp only [BR] at hbr
        obtain ⟨b', arr, vals, hb', _, _, hh, hr, hl⟩ := hbr
        rw [hb'] at hb; cases hb
        obtain ⟨v, hv, hd⟩ := takeV_sound (P := X.P) (hT _ _ h1) (o := o) hh hr hl hC
        refine ⟨v, yields_of ?_, hd⟩
        simpa only [Instr.loadAt, e, Instr.sureAddr, Sem.run_bind, Sem.run_pure, Result.andThen_ok, Nat.zero_add] using hv
      · cases h
    · rename_i td cs o h1 h2
      simp only [Option.some.injEq, Prod.mk.injEq] at h; obtain ⟨rfl, rfl⟩ := h
      have hy := hs.opd y
      rw [h2] at hy
      simp only [VR] at hy
      obtain ⟨b, off, arr, ty', fz, vals, e, hb, hh, hr, hl⟩ := hy
      obtain ⟨v, hv, hd⟩ := takeD_sound (P := X.P) (hT _ _ h1) (o := o) hh hr hl hC
      refine ⟨v, yields_of ?_, by simpa only [VR] using hd⟩
      simpa only [Instr.loadAt, e, Instr.sureAddr, Sem.run_bind, Sem.run_pure, Result.andThen_ok] using hv
    · cases h
  case extract y i =>
    split at h
    · rename_i cs hc
      split at h
      · rename_i c hi
        simp only [Option.some.injEq, Prod.mk.injEq] at h; obtain ⟨rfl, rfl⟩ := h
        have hy := hs.opd y
        rw [hc] at hy
        simp only [VR, DR] at hy
        obtain ⟨arr, e, hl⟩ := hy
        have get : ∀ (cs : List D) (vs : List Value) (i : Nat), DRT F w cs vs → cs[i]? = some c → ∃ v, vs[i]? = some v ∧ DR F w c v := by
          intro cs
          induction cs with
          | nil => intro vs i _ h; simp at h
          | cons x xs ih =>
            intro vs i h hi
            simp only [DRT] at h
            obtain ⟨v, rest, rfl, h1, h2⟩ := h
            cases i with
            | zero => simp at hi; subst hi; exact ⟨v, by simp, h1⟩
            | succ i => simp at hi; obtain ⟨u, hu, hr⟩ := ih rest i h2 hi; exact ⟨u, by simpa using hu, hr⟩
        obtain ⟨v, hv, hd⟩ := get cs _ i hl hi
        have hv' : arr[i]? = some v := by simpa using hv
        refine ⟨v, yields_of ?_, by simpa only [VR] using hd⟩
        simp [Instr.extract, e, hv']
      · cases h
    · cases h
  case slice t y lo hi mx =>
    split at h
    · rename_i td h1
      split at h
      · rename_i e hd
        split at h
        · rename_i ed hed
          have go : ∀ lo' hi', sliceQ ed.size (s.opd y) lo' hi' = some (C, x) → ((lo = none ∧ lo' = none) ∨ ∃ z l, lo = some z ∧ intOfV (s.opd z) = some l ∧ lo' = some l) → ((hi = none ∧ hi' = none) ∨ ∃ z l, hi = some z ∧ intOfV (s.opd z) = some l ∧ hi' = some l) →
              ∃ v, Yields X.P a ⟨dst, .slice t y lo hi none, ty, pos, after, guard⟩ w v ∧ VR io F w x v := fun lo' hi' hq hlo hhi => by
            obtain ⟨u, hr, hv⟩ := sliceQ_sound (P := X.P) (hT _ _ h1) hd (hT _ _ hed) (hs.opd y) (lo.map a.eval) (hi.map a.eval) lo' hi' (by
              rcases hlo with ⟨rfl, rfl⟩ | ⟨z, l, rfl, hz, rfl⟩
              · exact .inl ⟨rfl, rfl⟩
              · obtain ⟨k, hk⟩ := intOfV_sound hz (hs.opd z)
                exact .inr ⟨k, l, by simp [hk], rfl⟩) (by
              rcases hhi with ⟨rfl, rfl⟩ | ⟨z, l, rfl, hz, rfl⟩
              · exact .inl ⟨rfl, rfl⟩
              · obtain ⟨k, hk⟩ := intOfV_sound hz (hs.opd z)
                exact .inr ⟨k, l, by simp [hk], rfl⟩) hq hC
            exact ⟨u, yields_of hr, hv⟩
          cases lo <;> cases hi <;> simp only [Option.map_none, Option.map_some] at h
          · exact go none none h (.inl ⟨rfl, rfl⟩) (.inl ⟨rfl, rfl⟩)
          · rename_i z
            cases hz : intOfV (s.opd z) with
            | none => rw [hz] at h; cases h
            | some n => rw [hz] at h; exact go none (some n) h (.inl ⟨rfl, rfl⟩) (.inr ⟨z, n, rfl, hz, rfl⟩)
          · rename_i z
            cases hz : intOfV (s.opd z) with
            | none => rw [hz] at h; cases h
            | some n => rw [hz] at h; exact go (some n) none h (.inr ⟨z, n, rfl, hz, rfl⟩) (.inl ⟨rfl, rfl⟩)
          · rename_i z z'
            cases hz : intOfV (s.opd z) with
            | none => rw [hz] at h; cases h
            | some n =>
              cases hz' : intOfV (s.opd z') with
              | none => rw [hz, hz'] at h; cases h
              | some n' => rw [hz, hz'] at h; exact go (some n) (some n') h (.inr ⟨z, n, rfl, hz, rfl⟩) (.inr ⟨z', n', rfl, hz', rfl⟩)
        · cases h
      · rename_i hd
        have hu := (hT _ _ h1).runU w
        rw [hd] at hu
        have go : ∀ (b : ByteArray) (l' h' : Int), s.opd y = .d (.str b) → ((lo.map a.eval = none ∧ l' = 0) ∨ ∃ k, lo.map a.eval = some (.int k l')) → ((hi.map a.eval = none ∧ h' = b.size) ∨ ∃ k, hi.map a.eval = some (.int k h')) → 0 ≤ l' → l' ≤ h' → h' ≤ b.size →
            ∃ v, Yields X.P a ⟨dst, .slice t y lo hi none, ty, pos, after, guard⟩ w v ∧ VR io F w (.d (.str (b.extract l'.toNat h'.toNat))) v := fun b l' h' hy hlo hhi h0 h1 h2 => by
          have hb := hs.opd y
          rw [hy] at hb
          simp only [VR, DR] at hb
          refine ⟨.string (b.extract l'.toNat h'.toNat), yields_of ?_, by simp only [VR, DR]⟩
          simp only [Instr.sliceAt, Sem.run_bind, hu, Result.andThen_ok, Instr.slice, hb]
          have := run_sliceBounds (P := X.P) (w := w) false b.size b.size (lo.map a.eval) (hi.map a.eval) l' h' hlo hhi h0 h1 h2 (Nat.le_refl _)
          simp [this]
        have intAt : ∀ z n, intOfV (s.opd z) = some n → ∃ k, a.eval z = .int k n := fun z n hz => intOfV_sound hz (hs.opd z)
        cases lo <;> cases hi <;> simp only [Option.map_none, Option.map_some] at h go
        · split at h
          · rename_i b hy _ _
            simp only [Option.some.injEq, Prod.mk.injEq] at h; obtain ⟨rfl, rfl⟩ := h
            simpa using go b 0 b.size hy (.inl (by simp)) (.inl (by simp)) (by omega) (by omega) (by omega)
          all_goals simp_all
        · rename_i z
          split at h
          · simp_all
          · simp_all
          · rename_i b hi' hy _ hz
            simp only [Option.some.injEq, Prod.mk.injEq] at h; obtain ⟨rfl, rfl⟩ := h
            simp only [Option.some.injEq] at hz
            obtain ⟨k, hk⟩ := intAt z _ hz
            simpa using go b 0 hi' hy (.inl (by simp)) (.inr ⟨k, by rw [hk]⟩) (by omega) (by omega) (by omega)
          all_goals simp_all
        · rename_i z
          split at h
          · simp_all
          · rename_i b lo' hy hz _
            simp only [Option.some.injEq, Prod.mk.injEq] at h; obtain ⟨rfl, rfl⟩ := h
            simp only [Option.some.injEq] at hz
            obtain ⟨k, hk⟩ := intAt z _ hz
            simpa using go b lo' b.size hy (.inr ⟨k, by rw [hk]⟩) (.inl (by simp)) (by omega) (by omega) (by omega)
          all_goals simp_all
        · rename_i z z'
          split at h
          · simp_all
          · simp_all
          · simp_all
          · rename_i b lo' hi' hy hz hz'
            simp only [Option.some.injEq, Prod.mk.injEq] at h; obtain ⟨rfl, rfl⟩ := h
            simp only [Option.some.injEq] at hz hz'
            obtain ⟨k, hk⟩ := intAt z _ hz
            obtain ⟨k', hk'⟩ := intAt z' _ hz'
            simpa using go b lo' hi' hy (.inr ⟨k, by rw [hk]⟩) (.inr ⟨k', by rw [hk']⟩) (by omega) (by omega) (by omega)
          all_goals simp_all
      · cases h
    · cases h
  case nilCheck y =>
    have hy := hs.opd y
    split at h
    · rename_i k o hk
      simp only [Option.some.injEq, Prod.mk.injEq] at h; obtain ⟨rfl, rfl⟩ := h
      rw [hk] at hy
      have hy' := hy
      simp only [VR] at hy'
      obtain ⟨b, hb, e⟩ := hy'
      refine ⟨a.eval y, ?_, hy⟩
      simp [Yields, execOp, e]
    · rename_i cs o hk
      simp only [Option.some.injEq, Prod.mk.injEq] at h; obtain ⟨rfl, rfl⟩ := h
      rw [hk] at hy
      have hy' := hy
      simp only [VR] at hy'
      obtain ⟨b, off, arr, ty', fz, vals, e, _⟩ := hy'
      refine ⟨a.eval y, ?_, hy⟩
      simp [Yields, execOp, e]
    · cases h
  case build t parts =>
    split at h
    · rename_i td h1
      split at h
      · rename_i fs hd
        split at h
        · rename_i hall
          split at h
          · rename_i z hz
            split at h
            · rename_i cells hf
              simp only [Option.some.injEq, Prod.mk.injEq] at h; obtain ⟨rfl, rfl⟩ := h
              obtain ⟨v, hr, hv⟩ := run_buildStruct (P := X.P) hT (io := io) (F := F) (w := w) h1 hd hall hz hf (vals := parts.map fun (i, x) => (i, a.eval x)) (by simp) (fun j i x v i' hp hq => by
                simp only [List.getElem?_map, Array.toList_map, Option.map_eq_some_iff] at hp hq
                obtain ⟨p, hp1, hp2⟩ := hp
                obtain ⟨q, hq1, hq2⟩ := hq
                rw [hp1] at hq1
                cases hq1
                cases hp2
                cases hq2
                exact ⟨rfl, hs.opd _⟩)
              exact ⟨v, yields_of hr, hv⟩
            · cases h
          · cases h
        · cases h
      · cases h
    · cases h
  case call c =>
    obtain ⟨callee, args, argTypes⟩ := c
    simp only at h
    split at h
    · rename_i y t hargs ht
      have ha : args = #[y] := by cases args; simpa using hargs
      subst ha
      have run : ∀ (v : Value), (Builtin.len_ argTypes ty #[a.eval y]).run X.P w = .ok v w → Yields X.P a ⟨dst, .call ⟨.builtin .len, #[y], argTypes⟩, ty, pos, after, guard⟩ w v := fun v hv => by
        simp [Yields, execOp, resolve, invoke, builtin, hv]
      have hy := hs.opd y
      split at h
      · rename_i td b hd hx
        split at h
        · rename_i hdd
          simp only [Option.some.injEq, Prod.mk.injEq] at h; obtain ⟨rfl, rfl⟩ := h
          rw [hx] at hy
          simp only [VR, DR] at hy
          have hu := (hT _ _ hd).runU w
          rw [hdd] at hu
          exact ⟨goInt b.size, run _ (by simp [Builtin.len_, ht, hu, hy]), by simp only [VR, DR]; rfl⟩
        · cases h
      · rename_i td n cs hd hx
        split at h
        · rename_i e hdd
          simp only [Option.some.injEq, Prod.mk.injEq] at h; obtain ⟨rfl, rfl⟩ := h
          rw [hx] at hy
          simp only [VR, DR] at hy
          have hu := (hT _ _ hd).runU w
          rw [hdd] at hu
          refine ⟨goInt n, run _ ?_, by simp only [VR, DR]; rfl⟩
          rcases hy with ⟨hy, rfl, _⟩ | ⟨b, off, cap, arr, ty', fz, vals, hy, _⟩ <;> simp [Builtin.len_, ht, hu, hy]
        · cases h
      · rename_i td hd hx
        split at h
        · rename_i e hdd
          simp only [Option.some.injEq, Prod.mk.injEq] at h; obtain ⟨rfl, rfl⟩ := h
          rw [hx] at hy
          simp only [VR, DR] at hy
          have hu := (hT _ _ hd).runU w
          rw [hdd] at hu
          exact ⟨goInt 0, run _ (by simp [Builtin.len_, ht, hu, hy]), by simp only [VR, DR]; rfl⟩
        · cases h
      · rename_i td k n ty' sz hd hx
        split at h
        · rename_i e hdd
          simp only [Option.some.injEq, Prod.mk.injEq] at h; obtain ⟨rfl, rfl⟩ := h
          rw [hx] at hy
          simp only [VR] at hy
          have hu := (hT _ _ hd).runU w
          rw [hdd] at hu
          refine ⟨goInt n, run _ ?_, by simp only [VR, DR]; rfl⟩
          rcases hy with ⟨_, hy, rfl⟩ | ⟨b, cap, arr, _, hy, _⟩ <;> simp [Builtin.len_, ht, hu, hy]
        · cases h
      · cases h
    · rename_i y z hargs
      have ha : args = #[y, z] := by cases args; simpa using hargs
      subst ha
      split at h
      · rename_i k m k' n h1 h2
        simp only [Option.some.injEq, Prod.mk.injEq] at h; obtain ⟨rfl, rfl⟩ := h
        have hy := hs.opd y
        have hz := hs.opd z
        rw [h1] at hy; rw [h2] at hz
        simp only [VR, DR] at hy hz
        refine ⟨.int k (if n > m then n else m), ?_, by simp only [VR, DR]⟩
        simp [Yields, execOp, resolve, invoke, builtin, Builtin.max_, hy, hz, Builtin.max2]
      · cases h
    · rename_i y z hargs
      have ha : args = #[y, z] := by cases args; simpa using hargs
      subst ha
      split at h
      · rename_i k m k' n h1 h2
        simp only [Option.some.injEq, Prod.mk.injEq] at h; obtain ⟨rfl, rfl⟩ := h
        have hy := hs.opd y
        have hz := hs.opd z
        rw [h1] at hy; rw [h2] at hz
        simp only [VR, DR] at hy hz
        refine ⟨.int k (if n < m then n else m), ?_, by simp only [VR, DR]⟩
        simp [Yields, execOp, resolve, invoke, builtin, Builtin.min_, hy, hz, Builtin.min2]
      · cases h
    · cases h
end Go.Ab
