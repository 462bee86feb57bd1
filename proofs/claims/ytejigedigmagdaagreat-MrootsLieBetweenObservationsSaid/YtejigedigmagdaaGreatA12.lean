/-
 Contracts of functions of the program, and the layer that they are walked with: Z24 TukJ OrdersF OrdersG Z25 TukK TukL TukM Z27 S71 Z26 S72 Z28. Conditions: as each says.
-/
import Derived.Test.YtejigedigmagdaaGreatA11
set_option linter.unusedVariables false
set_option linter.unusedSimpArgs false
set_option linter.unnecessarySimpa false
set_option maxHeartbeats 8000000
namespace Go.Proofs.YtejigedigmagdaaGreat
open Go.Vw
attribute [local irreducible] awp awpL awpR awpAC
theorem btw_ex {W : List Rat} {a b : Rat} (h : WOk W a b) {D M : Nat} (D0 : D ≠ 0) (hD : D < 4294967296 * 4294967296) (hM : M < 4294967296 * 4294967296 * 4294967296) (db : Dy D M 0 b) (b1 : -4000 ≤ b) (b2 : b ≤ 4000) {bits : Nat} (hb : bits ≤ 128) : ∀ (l : List I2) (last : Rat), (∀ x ∈ l, (∃ j, j ≤ 463013 ∧ Dy D M j x.1 ∧ Dy D M j x.2) ∧ x.1 < x.2 ∧ last ≤ x.1 ∧ x.2 ≤ b ∧ cfn W x.1 x.2 = 1 ∧ -4000 ≤ x.1) -> l.Pairwise (fun a b => a.2 ≤ b.1) -> ∃ R : List I2, R.length = l.length ∧ ∀ i, i < R.length -> Nrw W (lastR last R i) b (hw 1 bits) (l.getD i (0, 0)) (R.getD i (0, 0))
 | [], last, _, _ => ⟨[], rfl, fun i hi => absurd hi (Nat.not_lt_zero i)⟩
 | x :: l, last, hl, hp => by
  obtain ⟨⟨j, j1, d1, d2⟩, lt, la, xb, c1, m4⟩ := hl x List.mem_cons_self
  obtain ⟨hp1, hp2⟩ := List.pairwise_cons.1 hp
  have start : last < x.1 ∨ (x.1 = last ∧ ∀ y, last < y -> y - last ≤ hw 1 2345000 -> cfn W last y = 0) := by
   rcases Rat.le_iff_lt_or_eq.1 la with g | g
   ·exact .inl g
   ·exact .inr ⟨g.symm, fun y y1 y2 => clear_right h D0 hD j1 (by rw [g]; exact d1) (by rw [g]; exact m4) (by rw [g]; grind) y1 y2⟩
  obtain ⟨y, hy⟩ := nar_ex h D0 hD hM db b1 b2 (last := last) hb 2345013 0 j x rfl (by omega) d1 d2 m4 xb lt (by show x.2 - x.1 ≤ 8192; grind) c1 start
  obtain ⟨R, r1, r2⟩ := btw_ex h D0 hD hM db b1 b2 hb l y.2 (fun z hz => by
   obtain ⟨q1, q2, q3, q4, q5, q6⟩ := hl z (List.mem_cons_of_mem _ hz)
   exact ⟨q1, q2, Rat.le_trans hy.hi (hp1 z hz), q4, q5, q6⟩) hp2
  refine ⟨y :: R, by simp [r1], fun i hi => ?_⟩
  cases i with
  | zero => exact hy
  | succ i =>
   have := r2 i (by simpa using hi)
   have e : lastR last (y :: R) (i + 1) = lastR y.2 R i := by
    cases i with
    | zero => rfl
    | succ i => rfl
   rw [e]
   exact this
structure TkIn (N P Q : Int) (x : List Rat) (r : Rat) : Prop where
 ne : x ≠ []
 len : x.length ≤ 5
 n0 : 0 < N
 n96 : N ≤ 144
 p0 : 0 < P
 p4 : P ≤ 140000
 q0 : 0 < Q
 q64 : Q ≤ 144
 hv : ∀ v ∈ x, ∃ V : Int, V.natAbs ≤ 140000 ∧ v * (N : Rat) = (V : Rat)
 hr : r * (Q : Rat) = (P : Rat)
 bd : ∀ v ∈ x, -1000 ≤ v ∧ v ≤ 1000
 rb : r ≤ 1000
theorem castP {z : Int} (h : 0 < z) : (0 : Rat) < (z : Rat) := Rat.intCast_lt_intCast.2 h
theorem ok_over {v : Rat} {N V : Int} (hN : N ≠ 0) (e : v * (N : Rat) = (V : Rat)) (h1 : V.natAbs < 4294967296) (h2 : N.natAbs < 4294967296) : okQ 2 v := by
 have : v = Rat.divInt V N := by
  rw [Rat.divInt_eq_div, ← e]
  have hq : (N : Rat) ≠ 0 := fun k => hN (Rat.intCast_eq_zero_iff.1 k)
  grind
 rw [this]
 exact okQ_divInt hN (ln_sm h1) (ln_sm h2)
theorem TkIn.rp {N P Q : Int} {x : List Rat} {r : Rat} (h : TkIn N P Q x r) : 0 < r := by
 have hq := castP h.q0
 have hp := castP h.p0
 rw [← h.hr] at hp
 refine Rat.not_le.1 fun k => ?_
 have := Rat.mul_le_mul_of_nonneg_right k (Rat.le_of_lt hq)
 grind
theorem TkIn.okx {N P Q : Int} {x : List Rat} {r : Rat} (h : TkIn N P Q x r) : ∀ v ∈ x, okQ 2 v := fun v hv => by
 obtain ⟨V, v1, v2⟩ := h.hv v hv
 have := h.n0
 have := h.n96
 exact ok_over (by omega) v2 (by omega) (by omega)
theorem TkIn.okr {N P Q : Int} {x : List Rat} {r : Rat} (h : TkIn N P Q x r) : okQ 2 r := by
 have := h.q0
 have := h.q64
 have := h.p0
 have := h.p4
 exact ok_over (by omega) h.hr (by omega) (by omega)
theorem TkIn.ends {N P Q : Int} {x : List Rat} {r : Rat} (h : TkIn N P Q x r) : ∀ y ∈ qAg x r, okQ 2 y ∧ -2000 ≤ y ∧ y ≤ 2000 := fun y hy => by
 have a1 := h.n0
 have a2 := h.n96
 have a3 := h.p0
 have a4 := h.p4
 have a5 := h.q0
 have a6 := h.q64
 have key : ∃ v ∈ x, y = v - r ∨ y = v + r := by
  have := endsQ_mem.1 hy
  clear hy h a1 a2 a3 a4 a5 a6
  induction x with
  | nil => exact absurd this (by simp [endsF])
  | cons v x ih =>
   simp only [endsF, List.mem_cons] at this
   rcases this with e | e | e
   ·exact ⟨v, List.mem_cons_self, .inl e⟩
   ·exact ⟨v, List.mem_cons_self, .inr e⟩
   ·obtain ⟨w, w1, w2⟩ := ih e
    exact ⟨w, List.mem_cons_of_mem _ w1, w2⟩
 obtain ⟨v, hv, e⟩ := key
 obtain ⟨V, v1, v2⟩ := h.hv v hv
 have b := h.bd v hv
 have rb := h.rb
 have rp := h.rp
 have hr := h.hr
 have m1 : N * Q ≤ 144 * 144 := Int.mul_le_mul a2 a6 (by omega) (by omega)
 have m0 : 0 < N * Q := Int.mul_pos a1 a5
 have m2 : (V * Q).natAbs ≤ 140000 * 144 := by rw [Int.natAbs_mul]; exact Nat.mul_le_mul v1 (by omega)
 have m3 : (P * N).natAbs ≤ 140000 * 144 := by rw [Int.natAbs_mul]; exact Nat.mul_le_mul (by omega) (by omega)
 have bound : -2000 ≤ y ∧ y ≤ 2000 := by rcases e with e | e <;> (rw [e]; constructor <;> grind)
 refine ⟨?_, bound⟩
 rcases e with e | e
 ·refine ok_over (N := N * Q) (V := V * Q - P * N) (by omega) ?_ (by omega) (by omega)
  rw [e, Rat.intCast_mul, Rat.intCast_sub, Rat.intCast_mul, Rat.intCast_mul, ← v2, ← hr]
  grind
 ·refine ok_over (N := N * Q) (V := V * Q + P * N) (by omega) ?_ (by omega) (by omega)
  rw [e, Rat.intCast_mul, Rat.intCast_add, Rat.intCast_mul, Rat.intCast_mul, ← v2, ← hr]
  grind
theorem TkIn.piece {N P Q : Int} {x : List Rat} {r : Rat} (h : TkIn N P Q x r) (j : Nat) : HtP 5 (qAw x r j) := by
 have a1 := h.n0
 have a2 := h.n96
 have a3 := h.p0
 have a4 := h.p4
 have a5 := h.q0
 have a6 := h.q64
 have hr := h.hr
 have rp := h.rp
 have hs : 1 / (r * r) * ((P * P : Int) : Rat) = ((Q * Q : Int) : Rat) := by
  rw [Rat.intCast_mul, Rat.intCast_mul, ← hr]
  have : r * r ≠ 0 := by have := Rat.mul_pos rp rp; grind
  have e := qAp (a := 1) (b := r * r) this
  generalize 1 / (r * r) = s at *
  grind
 obtain ⟨q, q1, q2⟩ := sum_Z (N := N) (A := 140000) (by omega) (by omega) hs (l := actF x r (mid2 ((qAg x r).getD j 0, (qAg x r).getD (j + 1) 0))) fun v hv => h.hv v (act_mem hv)
 have al : (actF x r (mid2 ((qAg x r).getD j 0, (qAg x r).getD (j + 1) 0))).length ≤ 5 := Nat.le_trans (act_len x r _) h.len
 have n1 : (N * P).natAbs ≤ 144 * 140000 := by rw [Int.natAbs_mul]; exact Nat.mul_le_mul (by omega) (by omega)
 have n2 : ((N * P) * (N * P)).natAbs ≤ 144 * 140000 * (144 * 140000) := by rw [Int.natAbs_mul]; exact Nat.mul_le_mul n1 n1
 have n3 : (Q * Q).natAbs ≤ 144 * 144 := by rw [Int.natAbs_mul]; exact Nat.mul_le_mul (by omega) (by omega)
 have n4 : 140000 + N.natAbs ≤ 140144 := by omega
 have n5 : ((N * P) * (N * P)).natAbs + (Q * Q).natAbs * ((140000 + N.natAbs) * (140000 + N.natAbs)) ≤ 813687705501696 := by
  have := Nat.mul_le_mul n3 (Nat.mul_le_mul n4 n4)
  omega
 have n6 : (N * ((N * P) * (N * P)) * ((N * P) * (N * P))).natAbs ≤ 144 * (144 * 140000 * (144 * 140000)) * (144 * 140000 * (144 * 140000)) := by
  rw [Int.natAbs_mul, Int.natAbs_mul]
  exact Nat.mul_le_mul (Nat.mul_le_mul (by omega) n2) n2
 have n7 := Nat.mul_le_mul al (Nat.mul_le_mul (Nat.mul_le_mul n4 n5) n5)
 have np : N * ((N * P) * (N * P)) * ((N * P) * (N * P)) ≠ 0 := by
  have e1 : N * P ≠ 0 := Int.mul_ne_zero (by omega) (by omega)
  exact Int.mul_ne_zero (Int.mul_ne_zero (by omega) (Int.mul_ne_zero e1 e1)) (Int.mul_ne_zero e1 e1)
 refine ht_of_Z (h := 4) np (Nat.lt_of_le_of_lt n6 (by decide +kernel)) (Nat.lt_of_le_of_lt (Nat.le_trans q1 n7) (by decide +kernel)) fun t => ?_
 unfold qAw
 rw [ev_eqP]
 exact q2 t
def wP2 (x : List Rat) (r : Rat) (j : Nat) : List Rat := woP 6 (woP 6 (qAw x r j) ((qAg x r).getD j 0)) ((qAg x r).getD (j + 1) 0)
theorem TkIn.wok {N P Q : Int} {x : List Rat} {r : Rat} (h : TkIn N P Q x r) {j : Nat} (hj : j + 1 < (qAg x r).length) (hp : qAw x r j ≠ []) : WOk (wP2 x r j) ((qAg x r).getD j 0) ((qAg x r).getD (j + 1) 0) := by
 have ga : (qAg x r).getD j 0 ∈ qAg x r := by rw [List.getD_eq_getElem?_getD, List.getElem?_eq_getElem (by omega)]; exact List.getElem_mem _
 have gb : (qAg x r).getD (j + 1) 0 ∈ qAg x r := by rw [List.getD_eq_getElem?_getD, List.getElem?_eq_getElem hj]; exact List.getElem_mem _
 have oa := (h.ends _ ga).1
 have ob := (h.ends _ gb).1
 have lp : (qAw x r j).length ≤ 6 := eqP_len _ _
 have tp : Tr (qAw x r j) := tr_eqP _ _
 have l6 : (qAw x r j).length = 6 := by
  refine (eqP_ne (fun e => hp ?_) ?_).1
  ·unfold qAw; rw [e]; rfl
  ·have rp := h.rp
   have : r * r ≠ 0 := by have := Rat.mul_pos rp rp; grind
   intro k
   have := qAp (a := 1) (b := r * r) this
   rw [k, Rat.zero_mul] at this
   exact absurd this (by decide)
 obtain ⟨s1, s2, s3, s4, _⟩ := woP_spec 6 (s := (qAg x r).getD j 0) tp hp lp
 obtain ⟨t1, t2, t3, t4, k, t5⟩ := woP_spec 6 (s := (qAg x r).getD (j + 1) 0) s1 s2 (by omega)
 refine ⟨t1, t2, by show (woP 6 _ _).length ≤ 6; omega, wo_cap ob 6 s1 s2 (by omega) (wo_cap oa 6 tp hp lp (by rw [l6]; exact h.piece j)), fun e => s3 ?_, t3⟩
 rw [t5, show qAa (woP 6 (woP 6 (qAw x r j) ((qAg x r).getD j 0)) ((qAg x r).getD (j + 1) 0)) ((qAg x r).getD j 0) = 0 from e, Rat.mul_zero]
theorem cfn_few {W : List Rat} {a b : Rat} (h : WOk W a b) (x y : Rat) : cfn W x y ≤ 7 := by
 obtain ⟨q1, q2, q3⟩ := quo_ht h
 unfold cfn cntF
 rw [trim_of h.tr]
 have hl := chain_len smallP ((ctrQ W).length + 1) (ctrQ W) (derP (ctrQ W))
 have b1 := chg_bd ((ctr W).map fun f => sgQ (qAa f x)) 0
 have b2 := chg_bd ((ctr W).map fun f => sgQ (qAa f y)) 0
 rw [List.length_map] at b1 b2
 have hl2 : (ctr W).length ≤ 7 := by unfold ctr; omega
 split
 ·unfold vrsF; omega
 ·decide
structure PcR (x : List Rat) (r : Rat) (bits : Nat) (j : Nat) (R : List I2) : Prop where
 len : (R.length : Int) = cfn (wP2 x r j) ((qAg x r).getD j 0) ((qAg x r).getD (j + 1) 0)
 in_ : ∃ l : List I2, l.length = R.length ∧ Iso (cfn (wP2 x r j)) ((qAg x r).getD j 0, (qAg x r).getD (j + 1) 0) l ∧ ∀ i, i < R.length -> Nrw (wP2 x r j) (lastR ((qAg x r).getD j 0) R i) ((qAg x r).getD (j + 1) 0) (hw 1 bits) (l.getD i (0, 0)) (R.getD i (0, 0))
theorem asc_lt {q : List Rat} (h : q.Pairwise (· < ·)) {j : Nat} (hj : j + 1 < q.length) : q.getD j 0 < q.getD (j + 1) 0 := by
 rw [List.getD_eq_getElem?_getD, List.getElem?_eq_getElem (by omega), List.getD_eq_getElem?_getD, List.getElem?_eq_getElem hj]
 exact List.pairwise_iff_getElem.1 h j (j + 1) (by omega) hj (by omega)
theorem TkIn.exists_ {N P Q : Int} {x : List Rat} {r : Rat} (h : TkIn N P Q x r) {bits : Nat} (hb : bits ≤ 128) {j : Nat} (hj : j + 1 < (qAg x r).length) (hp : qAw x r j ≠ []) : ∃ R : List I2, PcR x r bits j R ∧ R.length ≤ 10 ∧ Ret Tryz.prog 56 [qsD (qAw x r j), qD ((qAg x r).getD j 0), qD ((qAg x r).getD (j + 1) 0), qD (hw 1 bits)] (· = isD R) := by
 have hk := h.wok hj hp
 have ga : (qAg x r).getD j 0 ∈ qAg x r := by rw [List.getD_eq_getElem?_getD, List.getElem?_eq_getElem (by omega)]; exact List.getElem_mem _
 have gb : (qAg x r).getD (j + 1) 0 ∈ qAg x r := by rw [List.getD_eq_getElem?_getD, List.getElem?_eq_getElem hj]; exact List.getElem_mem _
 obtain ⟨oa, a1, a2⟩ := h.ends _ ga
 obtain ⟨ob, b1, b2⟩ := h.ends _ gb
 have hab := asc_lt (endsQ_brk x r).1 hj
 have hpie := h.piece j
 have lp : (qAw x r j).length ≤ 6 := eqP_len _ _
 have tp : Tr (qAw x r j) := tr_eqP _ _
 obtain ⟨s1, s2, s3, s4, _⟩ := woP_spec 6 (s := (qAg x r).getD j 0) tp hp lp
 obtain ⟨W, hW⟩ : ∃ W, wP2 x r j = W := ⟨_, rfl⟩
 have eW : W = woP 6 (woP 6 (qAw x r j) ((qAg x r).getD j 0)) ((qAg x r).getD (j + 1) 0) := hW.symm
 have tW := hk.tr
 have W0 := hk.ne
 rw [hW] at hk tW W0
 have hd := hk.deep
 obtain ⟨D, M, D0, hD, hM, d1, d2⟩ := Dy.start oa ob
 obtain ⟨l, i1, i2, i3⟩ := isolate_B hk.pol (by rw [trim_of tW]; exact W0) (by decide) hd D0 hD hM (13 + 463000) 0 ((qAg x r).getD j 0, (qAg x r).getD (j + 1) 0) (by omega) d1 d2 (by show -4096 ≤ (qAg x r).getD j 0; grind) (by show (qAg x r).getD (j + 1) 0 ≤ 4096; grind) (Rat.le_of_lt hab) (by show (qAg x r).getD (j + 1) 0 - (qAg x r).getD j 0 ≤ 8192; grind)
 obtain ⟨p1, p2⟩ := i1.parts hd.toCnt
 have ln := i1.len hd.toCnt
 have few := cfn_few hk ((qAg x r).getD j 0) ((qAg x r).getD (j + 1) 0)
 obtain ⟨R, r1, r2⟩ := btw_ex hk D0 hD hM d2 (by grind) (by grind) hb l ((qAg x r).getD j 0) (fun y hy => by
  obtain ⟨k, k1, k2, k3⟩ := i2 y hy
  obtain ⟨y1, y2, y3, y4⟩ := p1 y hy
  exact ⟨⟨k, by omega, k2, k3⟩, y2, y1, y3, y4, by have : (qAg x r).getD j 0 ≤ y.1 := y1; grind⟩) p2
 have ln2 : (l.length : Int) ≤ 7 := by rw [ln]; exact few
 refine ⟨R, ⟨?_, l, r1.symm, by rw [hW]; exact i1, by rw [hW]; exact r2⟩, by omega, ?_⟩
 ·rw [r1, ln, hW]
 ·have hpol := hk.pol
  refine mroots_between _ _ _ tp hp lp hpie (by decide) (oa.mono (by decide)) (ob.mono (by decide)) ((hw_ok okQ_one bits).mono (by omega)) (Rat.le_of_lt hab) eW hpol (by rw [trim_of tW]; exact W0) ?_ (l := l) (by omega) i3 ⟨r1, fun i hi => ?_, fun i hi => (r2 i hi).nar⟩
  ·have l6 : HtP (capf (qAw x r j).length) (qAw x r j) := hpie.mono (capf_bd _).1
   exact (wo_cap oa 6 tp hp lp l6).mono (by have := (capf_bd (woP 6 (qAw x r j) ((qAg x r).getD j 0)).length).2; omega)
  ·cases i with
   | zero => exact oa.mono (by decide)
   | succ i => exact (r2 i (by omega)).ok.2
theorem chkErr_in {N P Q : Int} {x : List Rat} {r : Rat} (h : TkIn N P Q x r) : chkErr x r = 0 := by
 have l0 := List.length_pos_iff.2 h.ne
 have l5 := h.len
 have rp := h.rp
 unfold chkErr
 rw [if_neg (by omega), if_neg (by omega), if_neg (Rat.not_le.2 rp)]
theorem tukey_gen {N P Q : Int} {x : List Rat} {r : Rat} (h : TkIn N P Q x r) {bits : Nat} (hb : bits ≤ 128) : ∃ Rs : Nat -> List I2, (∀ j, j + 1 < (qAg x r).length -> qAw x r j ≠ [] -> PcR x r bits j (Rs j) ∧ (Rs j).length ≤ 10) ∧ Ret Tryz.prog 18 [qsD x, qD r, .int .i64 bits] (· = .tup [.agg [isD (ptsTo x r Rs ((qAg x r).length - 1)), isD (flatQ x r)], .int .i64 0]) := by
 have key : ∀ j, ∃ R : List I2, j + 1 < (qAg x r).length -> qAw x r j ≠ [] -> PcR x r bits j R ∧ R.length ≤ 10 ∧ Ret Tryz.prog 56 [qsD (qAw x r j), qD ((qAg x r).getD j 0), qD ((qAg x r).getD (j + 1) 0), qD (hw 1 bits)] (· = isD R) := fun j => by
  by_cases h1 : j + 1 < (qAg x r).length
  ·by_cases h2 : qAw x r j = []
   ·exact ⟨[], fun _ k => absurd h2 k⟩
   ·obtain ⟨R, q1, q2, q3⟩ := h.exists_ hb h1 h2
    exact ⟨R, fun _ _ => ⟨q1, q2, q3⟩⟩
  ·exact ⟨[], fun k => absurd k h1⟩
 refine ⟨fun j => Classical.choose (key j), fun j h1 h2 => ⟨(Classical.choose_spec (key j) h1 h2).1, (Classical.choose_spec (key j) h1 h2).2.1⟩, ?_⟩
 refine mroots_TukeyOk x r bits (by have := h.len; omega) (fun v hv => (h.okx v hv).mono (by decide)) (h.okr.mono (by decide)) h.rp (chkErr_in h) hb _ fun j h1 h2 => ?_
 obtain ⟨q1, q2, q3⟩ := Classical.choose_spec (key j) h1 h2
 have gb : (qAg x r).getD (j + 1) 0 ∈ qAg x r := by rw [List.getD_eq_getElem?_getD, List.getElem?_eq_getElem h1]; exact List.getElem_mem _
 have lp : (qAw x r j).length ≤ 6 := eqP_len _ _
 have tp : Tr (qAw x r j) := tr_eqP _ _
 have hpol := polOk_cap tp h2 lp ((h.piece j).mono (capf_bd _).1)
 have ob := (h.ends _ gb).1
 have ev := polynomial_EvalV hpol ((qAg x r).getD (j + 1) 0) (ob.mono (by decide))
 have oe := evalV_ok hpol ((qAg x r).getD (j + 1) 0) (ob.mono (by decide))
 refine ⟨q2, q3, ev, ?_⟩
 have hh := horn_ok hpol.ok ob (by decide) (qAw x r j).length (Nat.le_refl _)
 rw [horn_all] at hh
 refine hh.mono ?_
 have := Nat.mul_le_mul_right (100 + 2) lp
 omega
end Go.Proofs.YtejigedigmagdaaGreat
namespace Go.Vw
theorem sq_nonneg'' (x : Rat) : 0 ≤ x * x := by
 by_cases h : 0 ≤ x
 ·exact Rat.mul_nonneg h h
 ·have : 0 ≤ -x := by grind
  have := Rat.mul_nonneg this this
  grind
def estL (l : List Rat) (p : Rat) (g : Nat) : List Rat := [medLo l, medHi l, midQ l, qLo l p, qHi l p, medLo (hlL l), medHi (hlL l), trimQ l g, winQ l g, midQ (distQ l (midQ l)), qnQ l]
def Within (a b : Rat) (l : List Rat) : Prop := ∀ x ∈ l, a ≤ x ∧ x ≤ b
theorem getD_mem_in {l : List Rat} {i : Nat} (h : i < l.length) : l.getD i 0 ∈ l := by
 rw [List.getD_eq_getElem?_getD, List.getElem?_eq_getElem h]
 exact List.getElem_mem h
theorem Within.srt {a b : Rat} {l : List Rat} (h : Within a b l) : Within a b (srt l) := fun x hx => h x ((srt_perm l).subset hx)
theorem Within.get {a b : Rat} {l : List Rat} (h : Within a b l) {i : Nat} (hi : i < l.length) : a ≤ l.getD i 0 ∧ l.getD i 0 ≤ b := h _ (getD_mem_in hi)
theorem Within.med {a b : Rat} {l : List Rat} (h : Within a b l) (h0 : 0 < l.length) : (a ≤ medLo l ∧ medLo l ≤ b) ∧ (a ≤ medHi l ∧ medHi l ≤ b) ∧ a ≤ midQ l ∧ midQ l ≤ b := by
 have hl := srt_len l
 have h1 := h.srt.get (i := (l.length + 1) / 2 - 1) (by omega)
 have h2 := h.srt.get (i := l.length / 2) (by omega)
 refine ⟨h1, h2, ?_⟩
 unfold midQ medLo medHi
 constructor <;> grind
theorem Within.sum {a b : Rat} : ∀ {l : List Rat}, Within a b l -> ((l.length : Int) : Rat) * a ≤ sumQ l ∧ sumQ l ≤ ((l.length : Int) : Rat) * b
 | [], _ => by
  rw [sumQ_nil, List.length_nil]
  rw [show (((0 : Nat) : Int) : Rat) = 0 from rfl]
  constructor <;> grind
 | x :: l, h => by
  obtain ⟨h1, h2⟩ := Within.sum (l := l) fun y hy => h y (List.mem_cons_of_mem _ hy)
  have hx := h x List.mem_cons_self
  rw [sumQ_cons, List.length_cons, show (((l.length + 1 : Nat) : Int) : Rat) = ((l.length : Int) : Rat) + 1 by rw [Int.natCast_add, Rat.intCast_add]; rfl]
  constructor <;> grind
theorem Within.mean {a b : Rat} {l : List Rat} (h : Within a b l) (h0 : 0 < l.length) : a ≤ meanQ l ∧ meanQ l ≤ b := by
 obtain ⟨h1, h2⟩ := h.sum
 have hp : (0 : Rat) < ((l.length : Int) : Rat) := by
  have : ((0 : Int) : Rat) < ((l.length : Int) : Rat) := Rat.intCast_lt_intCast.2 (by omega)
  exact this
 unfold meanQ
 generalize ((l.length : Int) : Rat) = n at *
 have e : sumQ l = (sumQ l / n) * n := (Rat.div_mul_cancel (by grind)).symm
 constructor
 ·refine Rat.not_lt.1 fun hlt => ?_
  have := Rat.mul_lt_mul_of_pos_right hlt hp
  grind
 ·refine Rat.not_lt.1 fun hlt => ?_
  have := Rat.mul_lt_mul_of_pos_right hlt hp
  grind
theorem Within.hl {a b : Rat} {l : List Rat} (h : Within a b l) : ∀ k, k ≤ l.length -> Within a b (hlTake l k)
 | 0, _ => fun x hx => by simp [hlTake] at hx
 | k + 1, hk => fun x hx => by
  rw [hlTake, List.mem_append] at hx
  rcases hx with hx | hx
  ·exact h.hl k (by omega) x hx
  ·obtain ⟨y, hy, rfl⟩ := List.mem_map.1 hx
   have h1 := h y (List.mem_of_mem_take hy)
   have h2 := h.get (i := k) (by omega)
   constructor <;> grind
theorem Within.est {a b : Rat} {l : List Rat} (h : Within a b l) (h0 : 2 ≤ l.length) (hn : l.length ≤ 12) (p : Rat) {g : Nat} (hg : g ≤ (l.length - 1) / 2) : Within a b ((estL l p g).take 9) := by
 have hsl := srt_len l
 obtain ⟨m1, m2, m3⟩ := h.med (by omega)
 obtain ⟨h1, h2, _⟩ := (show Within a b (hlL l) from h.hl _ (Nat.le_refl _)).med (hlL_len hn (by omega)).2
 have q1 := h.srt.get (i := (min (qFirst p l.length) ((l.length : Int) - 1)).toNat) (by omega)
 have q2 := h.srt.get (i := (min (p * (l.length : Int)).floor ((l.length : Int) - 1)).toNat) (by omega)
 have t1 : a ≤ trimQ l g ∧ trimQ l g ≤ b := Within.mean (fun x hx => h.srt x (by unfold trimR at hx; exact List.mem_of_mem_drop (List.mem_of_mem_take hx))) (by unfold trimR; rw [List.length_take, List.length_drop, hsl]; omega)
 have w1 : a ≤ winQ l g ∧ winQ l g ≤ b := Within.mean (fun x hx => h.srt x (winL_mem _ g (by omega) g x hx)) (by rw [winL_len]; omega)
 intro x hx
 simp only [estL, List.take_succ_cons, List.take_zero, List.mem_cons, List.not_mem_nil, or_false] at hx
 rcases hx with rfl | rfl | rfl | rfl | rfl | rfl | rfl | rfl | rfl
 ·exact m1
 ·exact m2
 ·exact m3
 ·exact q1
 ·exact q2
 ·exact h1
 ·exact h2
 ·exact t1
 ·exact w1
def pick (l : List Rat) (q : List Int) : List Rat := q.map fun z => l.getD z.toNat 0
end Go.Vw
namespace Go.Proofs.YtejigedigmagdaaGreat
open Go.Vw
attribute [local irreducible] awp awpL awpR awpAC
end Go.Proofs.YtejigedigmagdaaGreat
namespace Go.Vw
def powP (q : List Rat) : Nat -> List Rat
 | 0 => [1]
 | i + 1 => mulC q (powP q i)
theorem ev_pow (q : List Rat) (x : Rat) : ∀ i, qAa (powP q i) x = qAa q x ^ i
 | 0 => by rw [Rat.pow_zero]; exact ev_one x
 | i + 1 => by
  show qAa (mulC q (powP q i)) x = _
  rw [qAe, ev_pow q x i, Rat.pow_succ, Rat.mul_comm]
theorem dEv_pow (q : List Rat) (x : Rat) : ∀ i, qAa q x * dEv (powP q i) x = ((i : Nat) : Rat) * dEv q x * qAa (powP q i) x
 | 0 => by
  have e : dEv (powP q 0) x = 0 := by
   show dEv [1] x = 0
   rw [dEv_cons, dEv_nil]
   simp only [qAa]
   grind
  have z : ((0 : Nat) : Rat) = 0 := rfl
  rw [e, z]
  grind
 | i + 1 => by
  have ih := dEv_pow q x i
  show qAa q x * dEv (mulC q (powP q i)) x = _ * _ * qAa (mulC q (powP q i)) x
  have c : ((i + 1 : Nat) : Rat) = ((i : Nat) : Rat) + 1 := Rat.natCast_add i 1
  rw [dEv_mul, qAe, c]
  grind
def derI (g : List Rat) : Nat -> List Rat
 | 0 => g
 | i + 1 => derP (derI g i)
theorem derI_const : ∀ (n : Nat) {p : List Rat}, Tr p -> p ≠ [] -> p.length ≤ n -> ∃ i c, c ≠ 0 ∧ derI p i = [c]
 | 0, p, tp, p0, hl => absurd (List.length_eq_zero_iff.1 (by omega)) p0
 | n + 1, p, tp, p0, hl => by
  by_cases h1 : p.length = 1
  ·match p, h1 with
   | [a], _ =>
    have : a ≠ 0 := lead_ne tp p0
    exact ⟨0, a, this, rfl⟩
  ·have l1 := List.length_pos_iff.2 p0
   have ne : derP p ≠ [] := fun e => by
    have h2 : cf (derP p) (p.length - 2) = 0 := by rw [e]; rfl
    rw [show derP p = qAd (derC p) from rfl, cf_trim, cf_der] at h2
    have h3 : cf p (p.length - 2 + 1) ≠ 0 := by
     have := lead_ne tp p0
     unfold lead at this
     rwa [show p.length - 1 = p.length - 2 + 1 by omega] at this
    rcases Rat.mul_eq_zero.1 h2 with k | k
    ·have : (((p.length - 2 + 1 : Nat)) : Rat) = ((0 : Nat) : Rat) := by exact_mod_cast k
     have := Rat.natCast_inj.1 this
     omega
    ·exact h3 k
   have lt := derP_lt (p := p) (by rw [trim_of tp]; exact p0)
   have lt2 : (derP p).length < p.length := by rw [trim_of tp] at lt; exact lt
   obtain ⟨i, c, c0, hi⟩ := derI_const n (qAk _ : Tr (derP p)) ne (by have : (qAd (derC p)).length = (derP p).length := rfl; omega)
   refine ⟨i + 1, c, c0, ?_⟩
   rw [← hi]
   have shift : ∀ k, derI p (k + 1) = derI (derP p) k := fun k => by
    induction k with
    | zero => rfl
    | succ k ih => show derP (derI p (k + 1)) = derP (derI (derP p) k); rw [ih]
   exact shift i
theorem dvd_pow {W : List Rat} (tW : Tr W) (W0 : W ≠ []) : ∃ (k : Nat) (h : List Rat), ∀ x, qAa (quoP W) x ^ k = qAa (gcdP W (derP W)) x * qAa h x := by
 have tE : Tr (derP W) := qAk _
 obtain ⟨g1, g2⟩ := gcdP_tr tW tE
 obtain ⟨g3, g4⟩ := g2 (.inl W0)
 have hQ := quot_eval tW W0
 obtain ⟨R, hR⟩ := dvd_eval (gcdP_dvd tW tE).2
 unfold quoP
 generalize gcdP W (derP W) = g at *
 generalize (divP W g).1 = Q at *
 have dW : ∀ x, dEv W x = dEv Q x * qAa g x + qAa Q x * dEv g x := fun x => by
  have : dEv W x = dEv (mulC Q g) x := dEv_ext (qAt fun y => by rw [hQ y, qAe]) x
  rw [this, dEv_mul]
 have main : ∀ x, qAa Q x * dEv g x = qAa g x * (qAa R x - dEv Q x) := fun x => by
  have h1 := hR x
  rw [eval_derP, dW x] at h1
  grind
 have step : ∀ i, ∃ h : List Rat, ∀ x, qAa (powP Q i) x * qAa (derI g i) x = qAa g x * qAa h x := fun i => by
  induction i with
  | zero => exact ⟨[1], fun x => by show qAa [1] x * qAa g x = qAa g x * qAa [1] x; rw [Rat.mul_comm]⟩
  | succ i ih =>
   obtain ⟨h, hh⟩ := ih
   refine ⟨addC (addC (mulC (subC R (derC Q)) h) (mulC Q (derC h))) (smul (-((i : Nat) : Rat)) (mulC (derC Q) h)), fun x => ?_⟩
   have d : dEv (powP Q i) x * qAa (derI g i) x + qAa (powP Q i) x * dEv (derI g i) x = dEv g x * qAa h x + qAa g x * dEv h x := by
    have e : dEv (mulC (powP Q i) (derI g i)) x = dEv (mulC g h) x := dEv_ext (qAt fun y => by rw [qAe, qAe]; exact hh y) x
    rwa [dEv_mul, dEv_mul] at e
   have p := dEv_pow Q x i
   have m := main x
   have hx := hh x
   have e1 : qAa (derI g (i + 1)) x = dEv (derI g i) x := by show qAa (derP (derI g i)) x = _; rw [eval_derP]
   have e2 : qAa (powP Q (i + 1)) x = qAa Q x * qAa (powP Q i) x := by show qAa (mulC Q (powP Q i)) x = _; rw [qAe]
   have eq : qAa (derC Q) x = dEv Q x := rfl
   have eh : qAa (derC h) x = dEv h x := rfl
   rw [e1, e2, eval_add, eval_add, qAx, qAe, qAe, qAe, eval_sub, eq, eh]
   grind
 obtain ⟨i, c, c0, hi⟩ := derI_const g.length g1 g3 (Nat.le_refl _)
 obtain ⟨h, hh⟩ := step i
 refine ⟨i, smul (1 / c) h, fun x => ?_⟩
 have := hh x
 rw [hi, ev_pow] at this
 rw [qAx]
 have ec : qAa [c] x = c := by simp only [qAa]; grind
 rw [ec] at this
 have := qAp (a := 1) (b := c) c0
 grind
theorem slow {g : List Rat} {H : Nat} (hg : ∀ i, okQ H (cf g i)) : ∃ L : Rat, 0 < L ∧ ∀ x y, ab x ≤ 4096 -> ab y ≤ 4096 -> ab (qAa g x - qAa g y) ≤ L * ab (x - y) := ⟨twoQ (32 * H + 14 * g.length), twoQ_pos _, fun x y hx hy => lp_up hg x y hx hy⟩
theorem bounded {h : List Rat} {H : Nat} (hh : ∀ i, okQ H (cf h i)) : ∃ L : Rat, 0 < L ∧ ∀ x, ab x ≤ 4096 -> ab (qAa h x) ≤ L := ⟨twoQ (32 * H + 13 * h.length), twoQ_pos _, fun x hx => ev_up hh x hx⟩
theorem ok_some (p : List Rat) : ∃ H, 1 < H ∧ ∀ i, okQ H (cf p i) := by
 induction p with
 | nil => exact ⟨2, by decide, fun i => okQ_zero (by decide)⟩
 | cons a p ih =>
  obtain ⟨H, h1, h2⟩ := ih
  obtain ⟨K, hK⟩ : ∃ K, (qAc a.num.natAbs).length + (qAc a.den).length + 1 = K := ⟨_, rfl⟩
  refine ⟨H + K, by omega, fun i => ?_⟩
  cases i with
  | zero => exact ⟨by show (qAc a.num.natAbs).length < H + K; omega, by show (qAc a.den).length < H + K; omega⟩
  | succ i => exact (h2 i).mono (by omega)
theorem keeps_near {g : List Rat} {x y η : Rat} (hx : -4096 ≤ x) (hy : y ≤ 4096) (hlt : x < y) (h0 : 0 < η) (hg : ∀ z, x ≤ z -> z ≤ y -> η ≤ ab (qAa g z)) : 0 < qAa g x ↔ 0 < qAa g y := by
 obtain ⟨H, _, hH⟩ := ok_some g
 obtain ⟨L, l0, hL⟩ := slow hH
 obtain ⟨e, e0, he⟩ : ∃ d, 0 < d ∧ d * L = η / 2 := ⟨_, div_pos' (a := η / 2) (b := L) (by grind) l0⟩
 refine ways2 (R := fun s t => (0 < qAa g s ↔ 0 < qAa g t)) (fun a b c h1 h2 => h1.trans h2) e0 hlt fun s t h1 h2 h3 h4 => ?_
 have d := hL s t (ab_le (by grind) (by grind)) (ab_le (by grind) (by grind))
 have ds : ab (s - t) ≤ e := ab_le (by grind) (by grind)
 have k := qAo (Rat.le_refl (a := L)) ds (qAm _) (Rat.le_of_lt l0)
 have := sg_same (u := qAa g s) (v := qAa g t) h0 (hg s h1 (by grind)) (by have := qAm (qAa g s - qAa g t); grind)
 grind
theorem mono_on {Q : List Rat} {x y ε : Rat} (hx : -4096 ≤ x) (hy : y ≤ 4096) (he : 0 < ε) (hd : ∀ z, x ≤ z -> z ≤ y -> ε ≤ dEv Q z) {s t : Rat} (h1 : x ≤ s) (h2 : s < t) (h3 : t ≤ y) : qAa Q s < qAa Q t := by
 obtain ⟨K, hK, ht⟩ := taylor 4096 (by decide) Q
 obtain ⟨u, pu, mu⟩ : ∃ d, 0 < d ∧ d * (1 + K) = ε / 2 := ⟨_, div_pos' (a := ε / 2) (b := 1 + K) (by grind) (by grind)⟩
 refine ways2 (R := fun s t => qAa Q s < qAa Q t) (fun a b c h1 h2 => by grind) pu h2 fun a b c1 c2 c3 c4 => ?_
 have T := ht a b (ab_le (by grind) (by grind)) (ab_le (by grind) (by grind))
 have hab : ab (b - a) = b - a := by unfold ab; rw [if_neg (by grind)]
 rw [hab] at T
 have g := ab_ge (qAa Q b - qAa Q a - (b - a) * dEv Q a)
 have f := hd a (by grind) (by grind)
 have t1 : K * (b - a) < ε := near_lt hK he (by grind) c4 (by grind)
 have t2 : K * (b - a) * (b - a) < ε * (b - a) := Rat.mul_lt_mul_of_pos_right t1 (by grind)
 have t3 := mul_le' f (show 0 ≤ b - a by grind)
 grind
theorem dEv_neg (Q : List Rat) (x : Rat) : dEv (negC Q) x = -(dEv Q x) := by
 unfold negC
 rw [dEv_smul]
 grind
theorem ev_neg (Q : List Rat) (x : Rat) : qAa (negC Q) x = -(qAa Q x) := by
 unfold negC
 rw [qAx]
 grind
theorem low_on {Q : List Rat} (hb : Bez Q (derP Q)) {lo hi : Rat} (l1 : -4096 ≤ lo) (h1 : hi ≤ 4096) (hs : (∀ z, lo ≤ z -> z ≤ hi -> 0 < qAa Q z) ∨ (∀ z, lo ≤ z -> z ≤ hi -> qAa Q z < 0)) : ∃ δ, 0 < δ ∧ ∀ x y, lo ≤ x -> x < y -> y ≤ hi -> y - x ≤ δ -> ∃ η, 0 < η ∧ ∀ z, x ≤ z -> z ≤ y -> η ≤ ab (qAa Q z) := by
 obtain ⟨u, v, huv⟩ := hb
 obtain ⟨H1, _, o1⟩ := ok_some u
 obtain ⟨H2, _, o2⟩ := ok_some v
 obtain ⟨H3, _, o3⟩ := ok_some Q
 obtain ⟨H4, _, o4⟩ := ok_some (derP Q)
 obtain ⟨L1, p1, b1⟩ := bounded o1
 obtain ⟨L2, p2, b2⟩ := bounded o2
 obtain ⟨L3, p3, b3⟩ := slow o3
 obtain ⟨L4, p4, b4⟩ := slow o4
 obtain ⟨ε, e0, he⟩ : ∃ d, 0 < d ∧ d * (L1 + L2) = 1 := ⟨_, div_pos' (a := 1) (b := L1 + L2) (by decide) (by grind)⟩
 obtain ⟨δ, d0, hδ⟩ : ∃ d, 0 < d ∧ d * (L3 + L4) = ε / 2 := ⟨_, div_pos' (a := ε / 2) (b := L3 + L4) (by grind) (by grind)⟩
 refine ⟨δ, d0, fun x y a1 a2 a3 a4 => ?_⟩
 have dom : ∀ z, lo ≤ z -> z ≤ hi -> ab z ≤ 4096 := fun z a b => ab_le (by grind) (by grind)
 have far : ε ≤ ab (qAa Q x) ∨ ε ≤ ab (dEv Q x) := by
  refine Classical.byContradiction fun k => ?_
  have k1 : ab (qAa Q x) < ε := Rat.not_le.1 fun e => k (.inl e)
  have k2 : ab (dEv Q x) < ε := Rat.not_le.1 fun e => k (.inr e)
  have h := huv x
  rw [eval_derP] at h
  have g := ab_add (qAa u x * qAa Q x) (qAa v x * dEv Q x)
  rw [h, ab_mul, ab_mul, show ab (1 : Rat) = 1 by decide +kernel] at g
  have m1 := qAo (b1 x (dom x a1 (by grind))) (Rat.le_refl (a := ab (qAa Q x))) (qAm _) (Rat.le_of_lt p1)
  have m2 := qAo (b2 x (dom x a1 (by grind))) (Rat.le_refl (a := ab (dEv Q x))) (qAm _) (Rat.le_of_lt p2)
  have m3 := Rat.mul_lt_mul_of_pos_left k1 p1
  have m4 := Rat.mul_lt_mul_of_pos_left k2 p2
  grind
 have near : ∀ z, x ≤ z -> z ≤ y -> ab (qAa Q x - qAa Q z) ≤ ε / 2 ∧ ab (dEv Q x - dEv Q z) ≤ ε / 2 := fun z z1 z2 => by
  have dz : ab (x - z) ≤ δ := ab_le (by grind) (by grind)
  have c3 := b3 x z (dom x a1 (by grind)) (dom z (by grind) (by grind))
  have c4 := b4 x z (dom x a1 (by grind)) (dom z (by grind) (by grind))
  rw [eval_derP, eval_derP] at c4
  have m3 := qAo (Rat.le_refl (a := L3)) dz (qAm _) (Rat.le_of_lt p3)
  have m4 := qAo (Rat.le_refl (a := L4)) dz (qAm _) (Rat.le_of_lt p4)
  have q3 := Rat.mul_nonneg (Rat.le_of_lt d0) (Rat.le_of_lt p3)
  have q4 := Rat.mul_nonneg (Rat.le_of_lt d0) (Rat.le_of_lt p4)
  constructor <;> grind
 rcases far with f | f
 ·refine ⟨ε / 2, by grind, fun z z1 z2 => ?_⟩
  have n := (near z z1 z2).1
  have g := ab_add (qAa Q z) (qAa Q x - qAa Q z)
  have e : qAa Q z + (qAa Q x - qAa Q z) = qAa Q x := by grind
  rw [e] at g
  grind
 ·-- the slope keeps its sign
  have side : (∀ z, x ≤ z -> z ≤ y -> ε / 2 ≤ dEv Q z) ∨ (∀ z, x ≤ z -> z ≤ y -> ε / 2 ≤ dEv (negC Q) z) := by
   by_cases c : dEv Q x < 0
   ·refine .inr fun z z1 z2 => ?_
    have n := (near z z1 z2).2
    have g := ab_ge (dEv Q x - dEv Q z)
    have g2 : -(dEv Q x - dEv Q z) ≤ ab (dEv Q x - dEv Q z) := by unfold ab; split <;> grind
    have f2 : ab (dEv Q x) = -(dEv Q x) := by unfold ab; rw [if_pos c]
    rw [dEv_neg]
    grind
   ·refine .inl fun z z1 z2 => ?_
    have n := (near z z1 z2).2
    have g2 : (dEv Q x - dEv Q z) ≤ ab (dEv Q x - dEv Q z) := by unfold ab; split <;> grind
    have f2 : ab (dEv Q x) = dEv Q x := by unfold ab; rw [if_neg c]
    grind
  have rx : -4096 ≤ x := by grind
  have ry : y ≤ 4096 := by grind
  have abx : 0 < ab (qAa Q x) := by
   unfold ab
   rcases hs with hs | hs
   ·have := hs x a1 (by grind); rw [if_neg (by grind)]; exact this
   ·have := hs x a1 (by grind); rw [if_pos this]; grind
  have aby : 0 < ab (qAa Q y) := by
   unfold ab
   rcases hs with hs | hs
   ·have := hs y (by grind) a3; rw [if_neg (by grind)]; exact this
   ·have := hs y (by grind) a3; rw [if_pos this]; grind
  obtain ⟨m1, m2⟩ := mn_le (Rat.le_refl (a := mn (ab (qAa Q x)) (ab (qAa Q y))))
  refine ⟨mn (ab (qAa Q x)) (ab (qAa Q y)), mn_pos abx aby, fun z z1 z2 => ?_⟩
  have mono : (qAa Q x ≤ qAa Q z ∧ qAa Q z ≤ qAa Q y) ∨ (qAa Q z ≤ qAa Q x ∧ qAa Q y ≤ qAa Q z) := by
   rcases side with sd | sd
   ·left
    constructor
    ·rcases Rat.le_iff_lt_or_eq.1 z1 with g | g
     ·exact Rat.le_of_lt (mono_on rx ry (by grind) sd Rat.le_refl g z2)
     ·rw [g]; exact Rat.le_refl
    ·rcases Rat.le_iff_lt_or_eq.1 z2 with g | g
     ·exact Rat.le_of_lt (mono_on rx ry (by grind) sd z1 g Rat.le_refl)
     ·rw [g]; exact Rat.le_refl
   ·right
    constructor
    ·rcases Rat.le_iff_lt_or_eq.1 z1 with g | g
     ·have := mono_on rx ry (by grind) sd Rat.le_refl g z2
      rw [ev_neg, ev_neg] at this
      grind
     ·rw [g]; exact Rat.le_refl
    ·rcases Rat.le_iff_lt_or_eq.1 z2 with g | g
     ·have := mono_on rx ry (by grind) sd z1 g Rat.le_refl
      rw [ev_neg, ev_neg] at this
      grind
     ·rw [g]; exact Rat.le_refl
  rcases hs with hs | hs
  ·have q1 := hs x a1 (by grind)
   have q2 := hs y (by grind) a3
   have q3 := hs z (by grind) (by grind)
   have e1 : ab (qAa Q x) = qAa Q x := by unfold ab; rw [if_neg (by grind)]
   have e2 : ab (qAa Q y) = qAa Q y := by unfold ab; rw [if_neg (by grind)]
   have e3 : ab (qAa Q z) = qAa Q z := by unfold ab; rw [if_neg (by grind)]
   grind
  ·have q1 := hs x a1 (by grind)
   have q2 := hs y (by grind) a3
   have q3 := hs z (by grind) (by grind)
   have e1 : ab (qAa Q x) = -(qAa Q x) := by unfold ab; rw [if_pos q1]
   have e2 : ab (qAa Q y) = -(qAa Q y) := by unfold ab; rw [if_pos q2]
   have e3 : ab (qAa Q z) = -(qAa Q z) := by unfold ab; rw [if_pos q3]
   grind
theorem pow_pos' {x : Rat} (h : 0 < x) : ∀ k : Nat, 0 < x ^ k
 | 0 => by rw [Rat.pow_zero]; decide
 | k + 1 => by rw [Rat.pow_succ]; exact Rat.mul_pos (pow_pos' h k) h
theorem ab_pow (x : Rat) : ∀ k : Nat, ab (x ^ k) = ab x ^ k
 | 0 => by rw [Rat.pow_zero, Rat.pow_zero]; decide +kernel
 | k + 1 => by rw [Rat.pow_succ, Rat.pow_succ, ab_mul, ab_pow x k]
theorem pow_mono {x y : Rat} (h0 : 0 ≤ x) (h : x ≤ y) : ∀ k : Nat, x ^ k ≤ y ^ k ∧ 0 ≤ x ^ k
 | 0 => by rw [Rat.pow_zero, Rat.pow_zero]; exact ⟨Rat.le_refl, by decide⟩
 | k + 1 => by
  obtain ⟨a, b⟩ := pow_mono h0 h k
  rw [Rat.pow_succ, Rat.pow_succ]
  exact ⟨qAo a h h0 (Rat.le_trans b a), Rat.mul_nonneg b h0⟩
theorem sign_cnt {ch : List Rat -> List Rat} (hc : ChS ch) {W : List Rat} (tW : Tr W) (W0 : W ≠ []) {u v : Rat} (hu : -4096 ≤ u) (hv : v ≤ 4096) (hlt : u < v) (zu : qAa W u ≠ 0) (zv : qAa W v ≠ 0) (hs : ¬ (0 < qAa W u ↔ 0 < qAa W v)) : 1 ≤ cntC ch W u v := by
 refine Classical.byContradiction fun k => hs ?_
 have nn : ∀ a b, 0 ≤ cntC ch W a b := fun a b => cntC_nonneg hc tW W0 a b
 have c0 : cntC ch W u v = 0 := by have := nn u v; omega
 have dom : ∀ z, u ≤ z -> z ≤ v -> ab z ≤ 4096 := fun z a b => ab_le (by grind) (by grind)
 have nz : ∀ z, u ≤ z -> z ≤ v -> qAa W z ≠ 0 := fun z a b e => by
  rcases Rat.le_iff_lt_or_eq.1 a with g | g
  ·have := cntC_root hc tW W0 g b e
   omega
  ·rw [← g] at e; exact zu e
 -- no count on any part
 have part : ∀ a b, u ≤ a -> a < b -> b ≤ v -> cntC ch W a b = 0 := fun a b h1 h2 h3 => by
  have n1 := nn a b
  have e1 : cntC ch W u b = 0 := by
   rcases Rat.le_iff_lt_or_eq.1 h3 with g | g
   ·have := cntC_add (ch := ch) W (a := u) (m := b) (b := v) (by grind) g
    have := nn u b
    have := nn b v
    omega
   ·rw [g]; exact c0
  rcases Rat.le_iff_lt_or_eq.1 h1 with g | g
  ·have := cntC_add (ch := ch) W (a := u) (m := a) (b := b) g h2
   have := nn u a
   omega
  ·rw [← g]; exact e1
 obtain ⟨tQ, hb⟩ := quo_tr tW W0
 have qz : ∀ z, u ≤ z -> z ≤ v -> qAa (quoP W) z ≠ 0 := fun z a b e => nz z a b ((quo_zero tW W0 z).1 e)
 obtain ⟨e, he, hvs⟩ := vrs_short hc (X := 4096) (by decide) tQ hb (Nat.lt_succ_self _)
 have sgn : ∀ a b, u ≤ a -> a < b -> b ≤ v -> (0 < qAa (quoP W) a ↔ 0 < qAa (quoP W) b) := fun a b h1 h2 h3 => by
  refine ways2 (R := fun s t => (0 < qAa (quoP W) s ↔ 0 < qAa (quoP W) t)) (fun x y z p q => p.trans q) he h2 fun s t q1 q2 q3 q4 => ?_
  have p := part s t (by grind) q2 (by grind)
  unfold cntC at p
  rw [if_pos q2, hvs s t (dom s (by grind) (by grind)) (dom t (by grind) (by grind)) q2 q4] at p
  have nc : ¬ Cross (qAa (quoP W)) s t := fun h => by rw [if_pos h] at p; exact absurd p (by decide)
  have z1 := qz s (by grind) (by grind)
  have z2 := qz t (by grind) (by grind)
  unfold Cross at nc
  grind
 have one : (∀ z, u ≤ z -> z ≤ v -> 0 < qAa (quoP W) z) ∨ (∀ z, u ≤ z -> z ≤ v -> qAa (quoP W) z < 0) := by
  have key : ∀ z, u ≤ z -> z ≤ v -> (0 < qAa (quoP W) u ↔ 0 < qAa (quoP W) z) := fun z a b => by
   rcases Rat.le_iff_lt_or_eq.1 a with g | g
   ·exact sgn u z Rat.le_refl g b
   ·rw [g]
  by_cases p : 0 < qAa (quoP W) u
  ·exact .inl fun z a b => (key z a b).1 p
  ·refine .inr fun z a b => ?_
   have h1 := fun h => p ((key z a b).2 h)
   have h2 := qz z a b
   grind
 obtain ⟨δ, d0, hδ⟩ := low_on hb hu hv one
 obtain ⟨kk, h, hh⟩ := dvd_pow tW W0
 obtain ⟨H, _, oh⟩ := ok_some h
 obtain ⟨L, l0, bh⟩ := bounded oh
 have gs : 0 < qAa (gcdP W (derP W)) u ↔ 0 < qAa (gcdP W (derP W)) v := by
  refine ways2 (R := fun s t => (0 < qAa (gcdP W (derP W)) s ↔ 0 < qAa (gcdP W (derP W)) t)) (fun x y z p q => p.trans q) d0 hlt fun s t q1 q2 q3 q4 => ?_
  obtain ⟨η, n0, hη⟩ := hδ s t q1 q2 q3 q4
  obtain ⟨ζ, z0, hζ⟩ : ∃ d, 0 < d ∧ d * L = η ^ kk := ⟨_, div_pos' (a := η ^ kk) (b := L) (pow_pos' n0 kk) l0⟩
  refine keeps_near (by grind) (by grind) q2 z0 fun z z1 z2 => ?_
  have p1 := (pow_mono (Rat.le_of_lt n0) (hη z z1 z2) kk).1
  rw [← ab_pow] at p1
  have e1 := hh z
  have p2 : ab (qAa (quoP W) z ^ kk) = ab (qAa (gcdP W (derP W)) z) * ab (qAa h z) := by rw [← ab_mul, ← e1]
  rw [p2] at p1
  have p3 := qAo (Rat.le_refl (a := ab (qAa (gcdP W (derP W)) z))) (bh z (dom z (by grind) (by grind))) (qAm _) (qAm _)
  refine Rat.not_lt.1 fun c => ?_
  have := Rat.mul_lt_mul_of_pos_right c l0
  grind
 have qs : 0 < qAa (quoP W) u ↔ 0 < qAa (quoP W) v := sgn u v Rat.le_refl hlt Rat.le_refl
 have qe := quot_eval tW W0
 have eu := qe u
 have ev := qe v
 rw [show (divP W (gcdP W (derP W))).1 = quoP W from rfl] at eu ev
 rw [eu] at zu ⊢
 rw [ev] at zv ⊢
 generalize qAa (quoP W) u = a at *
 generalize qAa (quoP W) v = b at *
 generalize qAa (gcdP W (derP W)) u = c at *
 generalize qAa (gcdP W (derP W)) v = d at *
 have a0 : a ≠ 0 := fun e => zu (by rw [e, Rat.zero_mul])
 have c0' : c ≠ 0 := fun e => zu (by rw [e, Rat.mul_zero])
 have b0 : b ≠ 0 := fun e => zv (by rw [e, Rat.zero_mul])
 have d0' : d ≠ 0 := fun e => zv (by rw [e, Rat.mul_zero])
 have pp : ∀ p q : Rat, p ≠ 0 -> q ≠ 0 -> (0 < p * q ↔ (0 < p ↔ 0 < q)) := fun p q hp hq => by
  by_cases h1 : 0 < p
  ·by_cases h2 : 0 < q
   ·have := Rat.mul_pos h1 h2; grind
   ·have := Rat.mul_pos h1 (show 0 < -q by grind); grind
  ·by_cases h2 : 0 < q
   ·have := Rat.mul_pos (show 0 < -p by grind) h2; grind
   ·have := Rat.mul_pos (show 0 < -p by grind) (show 0 < -q by grind); grind
 rw [pp a c a0 c0', pp b d b0 d0', qs, gs]
theorem psi_up {d sq : Rat} (h : 0 ≤ d) : 0 ≤ psiV d sq := by
 unfold psiV
 exact Rat.mul_nonneg h (sq_nonneg'' _)
theorem psi_down {d sq : Rat} (h : d ≤ 0) : psiV d sq ≤ 0 := by
 have := psi_up (d := -d) (sq := sq) (by grind)
 unfold psiV at this ⊢
 have e : -d * -d = d * d := by grind
 rw [e] at this
 grind
theorem sumV_up {sq t : Rat} : ∀ {l : List Rat}, (∀ v ∈ l, t ≤ v) -> 0 ≤ sumV l sq t
 | [], _ => Rat.le_refl
 | v :: l, h => by
  have := sumV_up (sq := sq) (t := t) (l := l) fun u hu => h u (List.mem_cons_of_mem _ hu)
  have p := psi_up (d := v - t) (sq := sq) (by have := h v List.mem_cons_self; grind)
  show 0 ≤ psiV (v - t) sq + sumV l sq t
  grind
theorem sumV_down {sq t : Rat} : ∀ {l : List Rat}, (∀ v ∈ l, v ≤ t) -> sumV l sq t ≤ 0
 | [], _ => Rat.le_refl
 | v :: l, h => by
  have := sumV_down (sq := sq) (t := t) (l := l) fun u hu => h u (List.mem_cons_of_mem _ hu)
  have p := psi_down (d := v - t) (sq := sq) (by have := h v List.mem_cons_self; grind)
  show psiV (v - t) sq + sumV l sq t ≤ 0
  grind
theorem act_iff {x : List Rat} {r t v : Rat} : v ∈ actF x r t ↔ v ∈ x ∧ -r < v - t ∧ v - t < r := by
 unfold actF
 rw [List.mem_filter, decide_eq_true_eq, absQ_lt]
theorem act_ne {x : List Rat} {r t : Rat} : actF x r t ≠ [] ↔ ∃ v ∈ x, -r < v - t ∧ v - t < r := by
 constructor
 ·intro h
  obtain ⟨v, hv⟩ := List.exists_mem_of_ne_nil _ h
  obtain ⟨a, b⟩ := act_iff.1 hv
  exact ⟨v, a, b⟩
 ·rintro ⟨v, a, b⟩ e
  have := act_iff.2 ⟨a, b⟩
  rw [e] at this
  simp at this
theorem cluster {x : List Rat} {r sq lo : Rat} (hr : 0 < r) : ∀ (n : Nat) (w : Rat), (x.filter fun v => decide (w < v)).length ≤ n -> w ∈ x -> lo ≤ w -> (∀ t, lo ≤ t -> t ≤ w -> actF x r t ≠ []) -> ∃ w', w' ∈ x ∧ lo ≤ w' ∧ sumV (actF x r w') sq w' ≤ 0 ∧ ∀ t, lo ≤ t -> t ≤ w' -> actF x r t ≠ [] := by
 intro n
 induction n with
 | zero =>
  intro w hn hw hl ha
  refine ⟨w, hw, hl, sumV_down fun v hv => ?_, ha⟩
  refine Rat.not_lt.1 fun k => ?_
  have : v ∈ x.filter fun v => decide (w < v) := List.mem_filter.2 ⟨(act_iff.1 hv).1, decide_eq_true k⟩
  rw [List.length_eq_zero_iff.1 (Nat.le_zero.1 hn)] at this
  simp at this
 | succ n ih =>
  intro w hn hw hl ha
  by_cases c : ∃ v ∈ x, w < v ∧ v - w < r
  ·obtain ⟨v, v1, v2, v3⟩ := c
   refine ih v ?_ v1 (by grind) fun t t1 t2 => ?_
   ·have lt : (x.filter fun u => decide (v < u)).length < (x.filter fun u => decide (w < u)).length := by
     have e : (x.filter fun u => decide (v < u)) = (x.filter fun u => decide (w < u)).filter fun u => decide (v < u) := by
      rw [List.filter_filter]
      refine List.filter_congr fun u _ => ?_
      by_cases k : v < u
      ·have : w < u := by grind
       simp [k, this]
      ·simp [k]
     rw [e]
     refine Nat.lt_of_le_of_ne (List.length_filter_le _ _) fun h => ?_
     have := List.length_filter_eq_length_iff.1 h v (List.mem_filter.2 ⟨v1, decide_eq_true v2⟩)
     rw [decide_eq_true_eq] at this
     exact Rat.lt_irrefl this
    omega
   ·by_cases k : t ≤ w
    ·exact ha t t1 k
    ·exact act_ne.2 ⟨v, v1, by grind, by grind⟩
  ·refine ⟨w, hw, hl, sumV_down fun v hv => ?_, ha⟩
   obtain ⟨a, b1, b2⟩ := act_iff.1 hv
   exact Rat.not_lt.1 fun k => c ⟨v, a, k, b2⟩
def Hit (q : List Rat) (F : Rat -> Rat) (lo w : Rat) : Prop :=
 (∃ j, j + 2 < q.length ∧ lo ≤ q.getD (j + 1) 0 ∧ q.getD (j + 1) 0 ≤ w ∧ F (q.getD (j + 1) 0) = 0) ∨
 (∃ j u v, j + 1 < q.length ∧ q.getD j 0 ≤ u ∧ u < v ∧ v ≤ q.getD (j + 1) 0 ∧ lo ≤ u ∧ v ≤ w ∧ 0 < F u ∧ F v < 0) ∨
 (∃ j t, j + 1 < q.length ∧ q.getD j 0 < t ∧ t < q.getD (j + 1) 0 ∧ lo ≤ t ∧ t ≤ w ∧ F t = 0)
theorem asc_lt' {q : List Rat} (h : q.Pairwise (· < ·)) {i j : Nat} (hij : i < j) (hj : j < q.length) : q.getD i 0 < q.getD j 0 := by
 rw [getD_in hj, getD_in (show i < _ by omega)]
 exact List.pairwise_iff_getElem.1 h i j (by omega) hj hij
theorem place {q : List Rat} {t : Rat} : ∀ (n j : Nat), j + n + 1 = q.length -> q.getD j 0 ≤ t -> t < q.getD (j + n) 0 -> ∃ i, j ≤ i ∧ i + 1 < q.length ∧ q.getD i 0 ≤ t ∧ t < q.getD (i + 1) 0
 | 0, j, hn, h1, h2 => by
  exfalso
  rw [Nat.add_zero] at h2
  grind
 | n + 1, j, hn, h1, h2 => by
  by_cases c : t < q.getD (j + 1) 0
  ·exact ⟨j, Nat.le_refl _, by omega, h1, c⟩
  ·obtain ⟨i, i1, i2, i3, i4⟩ := place (q := q) (t := t) n (j + 1) (by omega) (Rat.not_lt.1 c) (by rw [show j + 1 + n = j + (n + 1) by omega]; exact h2)
   exact ⟨i, by omega, i2, i3, i4⟩
theorem hit_zero {q : List Rat} {F : Rat -> Rat} {lo w t : Rat} (q0 : q.getD 0 0 < t) (ql : t < q.getD (q.length - 1) 0) (hl : 1 < q.length) (h1 : lo ≤ t) (h2 : t ≤ w) (hz : F t = 0) : Hit q F lo w := by
 obtain ⟨i, _, i2, i3, i4⟩ := place (q := q) (t := t) (q.length - 1) 0 (by omega) (Rat.le_of_lt q0) (by rw [Nat.zero_add]; exact ql)
 rcases Rat.le_iff_lt_or_eq.1 i3 with g | g
 ·exact .inr (.inr ⟨i, t, i2, g, i4, h1, h2, hz⟩)
 ·cases i with
  | zero => rw [g] at q0; exact absurd q0 Rat.lt_irrefl
  | succ i => exact .inl ⟨i, by omega, by rw [g]; exact h1, by rw [g]; exact h2, by rw [g]; exact hz⟩
theorem hit_walk {q : List Rat} (ha : q.Pairwise (· < ·)) {F : Rat -> Rat} {lo w : Rat} (hw : F w < 0) (wl : w < q.getD (q.length - 1) 0) : ∀ (n j : Nat) (u : Rat), j + n + 1 = q.length -> q.getD j 0 ≤ u -> u < q.getD (j + n) 0 -> lo ≤ u -> u < w -> 0 < F u -> Hit q F lo w
 | 0, j, u, hn, h1, h2, _, _, _ => by
  exfalso
  rw [Nat.add_zero] at h2
  grind
 | n + 1, j, u, hn, h1, h2, h3, h4, h5 => by
  by_cases c : u < q.getD (j + 1) 0
  ·by_cases d : w ≤ q.getD (j + 1) 0
   ·exact .inr (.inl ⟨j, u, w, by omega, h1, h4, d, h3, Rat.le_refl, h5, hw⟩)
   ·have d' : q.getD (j + 1) 0 < w := Rat.not_le.1 d
    have j2 : j + 2 < q.length := by
     refine Nat.lt_of_not_le fun k => ?_
     have : q.length - 1 = j + 1 := by omega
     rw [this] at wl
     grind
    by_cases z : F (q.getD (j + 1) 0) = 0
    ·exact .inl ⟨j, j2, by grind, Rat.le_of_lt d', z⟩
    ·by_cases s : F (q.getD (j + 1) 0) < 0
     ·exact .inr (.inl ⟨j, u, q.getD (j + 1) 0, by omega, h1, c, Rat.le_refl, h3, Rat.le_of_lt d', h5, s⟩)
     ·refine hit_walk ha hw wl n (j + 1) (q.getD (j + 1) 0) (by omega) Rat.le_refl ?_ (by grind) d' (by grind)
      exact asc_lt' ha (by omega) (by omega)
  ·exact hit_walk ha hw wl n (j + 1) u (by omega) (Rat.not_lt.1 c) (by rw [show j + 1 + n = j + (n + 1) by omega]; exact h2) h3 h4 h5
theorem hit_ex {x : List Rat} {r sq lo : Rat} (hr : 0 < r) (hlo : lo ∈ x) (least : ∀ v ∈ x, lo ≤ v) : ∃ w, w ∈ x ∧ (∀ t, lo ≤ t -> t ≤ w -> actF x r t ≠ []) ∧ Hit (qAg x r) (fun t => sumV (actF x r t) sq t) lo w := by
 obtain ⟨w, w1, w2, w3, w4⟩ := cluster (sq := sq) hr _ lo (Nat.le_refl _) hlo Rat.le_refl fun t h1 h2 => act_ne.2 ⟨lo, hlo, by grind, by grind⟩
 have B := endsQ_brk x r
 have first : ∀ v ∈ x, (qAg x r).getD 0 0 < v := fun v hv => by
  obtain ⟨j, hj, e⟩ := List.getElem_of_mem (B.lo v hv)
  have := asc_le B.asc (Nat.zero_le j) hj
  rw [getD_in (by omega)]
  grind
 have last : ∀ v ∈ x, v < (qAg x r).getD ((qAg x r).length - 1) 0 := fun v hv => by
  obtain ⟨j, hj, e⟩ := List.getElem_of_mem (B.hi v hv)
  have := asc_le B.asc (show j ≤ (qAg x r).length - 1 by omega) (by omega)
  rw [getD_in (by omega)]
  grind
 have l1 : 1 < (qAg x r).length := by
  obtain ⟨i, hi, e1⟩ := List.getElem_of_mem (B.lo lo hlo)
  obtain ⟨j, hj, e2⟩ := List.getElem_of_mem (B.hi lo hlo)
  refine Nat.lt_of_not_le fun k => ?_
  have a1 : i = 0 := by omega
  have a2 : j = 0 := by omega
  subst a1; subst a2
  grind
 refine ⟨w, w1, w4, ?_⟩
 have up : 0 ≤ sumV (actF x r lo) sq lo := sumV_up fun v hv => least v (act_iff.1 hv).1
 rcases Rat.le_iff_lt_or_eq.1 up with g | g
 ·rcases Rat.le_iff_lt_or_eq.1 w3 with k | k
  ·have lt : lo < w := by
    rcases Rat.le_iff_lt_or_eq.1 w2 with h | h
    ·exact h
    ·rw [h] at g; grind
   have h0 := first lo hlo
   exact hit_walk B.asc k (last w w1) ((qAg x r).length - 1) 0 lo (by omega) (Rat.le_of_lt h0) (by rw [Nat.zero_add]; exact last lo hlo) Rat.le_refl lt g
  ·exact hit_zero (first w w1) (last w w1) l1 w2 Rat.le_refl k
 ·exact hit_zero (first lo hlo) (last lo hlo) l1 Rat.le_refl w2 g.symm
end Go.Vw
namespace Go.Proofs.YtejigedigmagdaaGreat
open Go.Vw
attribute [local irreducible] awp awpL awpR awpAC
theorem cnt_add' {C : Rat -> Rat -> Int} (hC : Cnt C) {a m b : Rat} (h1 : a ≤ m) (h2 : m ≤ b) : C a m + C m b = C a b := by
 rcases Rat.le_iff_lt_or_eq.1 h1 with g | g
 ·rcases Rat.le_iff_lt_or_eq.1 h2 with k | k
  ·exact hC.add a m b g k
  ·rw [k, hC.none b b Rat.lt_irrefl]; omega
 ·rw [g, hC.none m m Rat.lt_irrefl]; omega
theorem cnt_nn {C : Rat -> Rat -> Int} (hC : Cnt C) (a b : Rat) : 0 ≤ C a b := by
 by_cases h : a < b
 ·exact hC.nonneg a b h
 ·rw [hC.none a b h]; exact Int.le_refl 0
theorem nrw_one {W : List Rat} {a b : Rat} (h : WOk W a b) {last to width : Rat} {x y : I2} (hy : Nrw W last to width x y) {c : Rat} (hc : c < y.1) : 1 ≤ cfn W c y.2 := by
 have hd := h.deep
 rcases hy.root with ⟨e, z⟩ | ⟨lt, e⟩
 ·rw [cfn_C h.tr]
  exact cntC_root chS_small h.tr h.ne (s := y.2) (by rw [← e]; exact hc) Rat.le_refl (by rw [← e]; exact z)
 ·have := hd.add c y.1 y.2 hc lt
  have := hd.nonneg c y.1 hc
  omega
theorem meets {x : List Rat} {r : Rat} {bits j : Nat} {R : List I2} {N P Q : Int} (h : TkIn N P Q x r) (hj : j + 1 < (qAg x r).length) (hp : qAw x r j ≠ []) (hR : PcR x r bits j R) {u v : Rat} (hu : (qAg x r).getD j 0 ≤ u) (huv : u ≤ v) (hv : v ≤ (qAg x r).getD (j + 1) 0) (hC : ∀ c, (qAg x r).getD j 0 ≤ c -> c ≤ u -> (c < u ∨ c = (qAg x r).getD j 0) -> 1 ≤ cfn (wP2 x r j) c v) : ∃ i, i < R.length ∧ u ≤ (R.getD i (0, 0)).2 ∧ (R.getD i (0, 0)).1 ≤ v := by
 have hk := h.wok hj hp
 obtain ⟨l, l1, l2, l3⟩ := hR.in_
 have hlen := hR.len
 generalize (qAg x r).getD j 0 = a at *
 generalize (qAg x r).getD (j + 1) 0 = b at *
 generalize wP2 x r j = W at *
 have hd := hk.deep
 refine Classical.byContradiction fun no => ?_
 have out : ∀ i, i < R.length -> (R.getD i (0, 0)).2 < u ∨ v < (R.getD i (0, 0)).1 := fun i hi => by
  refine Classical.byContradiction fun k => no ⟨i, hi, ?_, ?_⟩
  ·exact Rat.not_lt.1 fun e => k (.inl e)
  ·exact Rat.not_lt.1 fun e => k (.inr e)
 have la : ∀ i, i ≤ R.length -> a ≤ lastR a R i ∧ (i : Int) ≤ cfn W a (lastR a R i) := fun i => by
  induction i with
  | zero => exact fun _ => ⟨Rat.le_refl, by show ((0 : Nat) : Int) ≤ cfn W a a; rw [hd.none a a Rat.lt_irrefl]; decide⟩
  | succ i ih =>
   intro hi
   obtain ⟨g1, g2⟩ := ih (by omega)
   have n := l3 i (by omega)
   have o := nrw_one hk n n.last
   have e : lastR a R (i + 1) = (R.getD i (0, 0)).2 := rfl
   have lt : lastR a R i ≤ (R.getD i (0, 0)).2 := by have := n.last; have := n.le; grind
   have ad := cnt_add' hd.toCnt g1 lt
   rw [e]
   exact ⟨by grind, by omega⟩
 obtain ⟨m, m1, m2, m3⟩ := least (P := fun i => i = R.length ∨ ¬ (R.getD i (0, 0)).2 < u) R.length (.inl rfl)
 have below : ∀ i, i < m -> (R.getD i (0, 0)).2 < u := fun i hi => Classical.byContradiction fun k => m3 i hi (.inr k)
 have cu : ∃ c, a ≤ c ∧ c ≤ u ∧ (c < u ∨ c = a) ∧ (m : Int) ≤ cfn W a c := by
  cases m with
  | zero => exact ⟨a, Rat.le_refl, hu, .inr rfl, cnt_nn hd.toCnt a a⟩
  | succ m =>
   obtain ⟨g1, g2⟩ := la (m + 1) m1
   have b := below m (Nat.lt_succ_self m)
   have e : lastR a R (m + 1) = (R.getD m (0, 0)).2 := rfl
   rw [e] at g1 g2
   exact ⟨_, g1, Rat.le_of_lt b, .inl b, g2⟩
 have cv : ((R.length : Int) - m) ≤ cfn W v b := by
  rcases m2 with e | k
  ·have := cnt_nn hd.toCnt v b
   omega
  ·by_cases e : m = R.length
   ·have := cnt_nn hd.toCnt v b
    omega
   ·have om : v < (R.getD m (0, 0)).1 := (out m (by omega)).resolve_left k
    have up : ∀ d, m + d + 1 ≤ R.length -> v ≤ lastR a R (m + d + 1) ∧ ((d + 1 : Nat) : Int) ≤ cfn W v (lastR a R (m + d + 1)) := fun d => by
     induction d with
     | zero =>
      intro hi
      have n := l3 m (by omega)
      have o := nrw_one hk n om
      exact ⟨by show v ≤ (R.getD m (0, 0)).2; have := n.le; grind, o⟩
     | succ d ih =>
      intro hi
      obtain ⟨g1, g2⟩ := ih (by omega)
      have n := l3 (m + d + 1) (by omega)
      have o := nrw_one hk n n.last
      have lt : lastR a R (m + d + 1) ≤ (R.getD (m + d + 1) (0, 0)).2 := by have := n.last; have := n.le; grind
      have ad := cnt_add' hd.toCnt g1 lt
      have e2 : lastR a R (m + (d + 1) + 1) = (R.getD (m + d + 1) (0, 0)).2 := rfl
      rw [e2]
      exact ⟨by grind, by omega⟩
    obtain ⟨d, hd'⟩ : ∃ d, R.length = m + d + 1 := ⟨R.length - m - 1, by omega⟩
    obtain ⟨g1, g2⟩ := up d (by omega)
    have n := l3 (m + d) (by omega)
    have e2 : lastR a R (m + d + 1) = (R.getD (m + d) (0, 0)).2 := rfl
    rw [e2] at g1 g2
    have ad := cnt_add' hd.toCnt g1 (Rat.le_of_lt n.to)
    have := cnt_nn hd.toCnt (R.getD (m + d) (0, 0)).2 b
    omega
 obtain ⟨c, k1, k2, k3, k4⟩ := cu
 have k5 := hC c k1 k2 k3
 have t1 := cnt_add' hd.toCnt k1 (Rat.le_trans k2 huv)
 have t2 := cnt_add' hd.toCnt (show a ≤ v by grind) hv
 omega
theorem meets_way {x : List Rat} {r : Rat} {bits j : Nat} {R : List I2} {N P Q : Int} (h : TkIn N P Q x r) (hj : j + 1 < (qAg x r).length) (hp : qAw x r j ≠ []) (hR : PcR x r bits j R) {u v : Rat} (hu : (qAg x r).getD j 0 ≤ u) (huv : u < v) (hv : v ≤ (qAg x r).getD (j + 1) 0) (hC : 1 ≤ cfn (wP2 x r j) u v) : ∃ i, i < R.length ∧ u ≤ (R.getD i (0, 0)).2 ∧ (R.getD i (0, 0)).1 ≤ v := by
 have hk := h.wok hj hp
 refine meets h hj hp hR hu (Rat.le_of_lt huv) hv fun c c1 c2 _ => ?_
 have := cnt_add' hk.deep.toCnt c2 (Rat.le_of_lt huv)
 have := cnt_nn hk.deep.toCnt c u
 omega
theorem meets_at {x : List Rat} {r : Rat} {bits j : Nat} {R : List I2} {N P Q : Int} (h : TkIn N P Q x r) (hj : j + 1 < (qAg x r).length) (hp : qAw x r j ≠ []) (hR : PcR x r bits j R) {u : Rat} (hu : (qAg x r).getD j 0 < u) (hv : u < (qAg x r).getD (j + 1) 0) (hz : qAa (wP2 x r j) u = 0) : ∃ i, i < R.length ∧ u ≤ (R.getD i (0, 0)).2 ∧ (R.getD i (0, 0)).1 ≤ u := by
 have hk := h.wok hj hp
 refine meets h hj hp hR (Rat.le_of_lt hu) Rat.le_refl (Rat.le_of_lt hv) fun c c1 c2 c3 => ?_
 rw [cfn_C hk.tr]
 exact cntC_root chS_small hk.tr hk.ne (s := u) (by rcases c3 with g | g; exact g; rw [g]; exact hu) Rat.le_refl hz
theorem wP2_ev {x : List Rat} {r : Rat} {j : Nat} (hp : qAw x r j ≠ []) : ∃ i k : Nat, ∀ t, qAa (qAw x r j) t = (t - (qAg x r).getD j 0) ^ i * ((t - (qAg x r).getD (j + 1) 0) ^ k * qAa (wP2 x r j) t) := by
 have lp : (qAw x r j).length ≤ 6 := eqP_len _ _
 have tp : Tr (qAw x r j) := tr_eqP _ _
 obtain ⟨s1, s2, s3, s4, i, s5⟩ := woP_spec 6 (s := (qAg x r).getD j 0) tp hp lp
 obtain ⟨t1, t2, t3, t4, k, t5⟩ := woP_spec 6 (s := (qAg x r).getD (j + 1) 0) s1 s2 (by omega)
 exact ⟨i, k, fun t => by rw [s5 t, t5 t]; rfl⟩
theorem pow_sg {d : Rat} : ∀ k : Nat, (0 < d -> 0 < d ^ k) ∧ (d < 0 -> d ^ k ≠ 0) ∧ (∀ e : Rat, d < 0 -> e < 0 -> 0 < d ^ k * e ^ k)
 | 0 => by
  refine ⟨fun _ => ?_, fun _ => ?_, fun e _ _ => ?_⟩
  ·rw [Rat.pow_zero]; decide
  ·rw [Rat.pow_zero]; decide
  ·rw [Rat.pow_zero, Rat.pow_zero]; decide +kernel
 | k + 1 => by
  obtain ⟨a, b, c⟩ := pow_sg (d := d) k
  refine ⟨fun h => by rw [Rat.pow_succ]; exact Rat.mul_pos (a h) h, fun h e => ?_, fun e h1 h2 => ?_⟩
  ·rw [Rat.pow_succ] at e
   rcases Rat.mul_eq_zero.1 e with g | g
   ·exact b h g
   ·grind
  ·rw [Rat.pow_succ, Rat.pow_succ]
   have p := c e h1 h2
   have q := Rat.mul_pos (show 0 < -d by grind) (show 0 < -e by grind)
   have := Rat.mul_pos p q
   generalize d ^ k = y at *
   generalize e ^ k = z at *
   grind
theorem wP2_sign {x : List Rat} {r : Rat} {j : Nat} (hp : qAw x r j ≠ []) {u v : Rat} (hu : (qAg x r).getD j 0 ≤ u) (huv : u < v) (hv : v ≤ (qAg x r).getD (j + 1) 0) (pu : 0 < qAa (qAw x r j) u) (nv : qAa (qAw x r j) v < 0) : qAa (wP2 x r j) u ≠ 0 ∧ qAa (wP2 x r j) v ≠ 0 ∧ ¬ (0 < qAa (wP2 x r j) u ↔ 0 < qAa (wP2 x r j) v) := by
 obtain ⟨i, k, h⟩ := wP2_ev hp
 have eu := h u
 have ev := h v
 rw [eu] at pu
 rw [ev] at nv
 generalize (qAg x r).getD j 0 = a at *
 generalize (qAg x r).getD (j + 1) 0 = b at *
 generalize qAa (wP2 x r j) u = wu at *
 generalize qAa (wP2 x r j) v = wv at *
 have u0 : wu ≠ 0 := fun e => by rw [e, Rat.mul_zero, Rat.mul_zero] at pu; exact Rat.lt_irrefl pu
 have v0 : wv ≠ 0 := fun e => by rw [e, Rat.mul_zero, Rat.mul_zero] at nv; exact Rat.lt_irrefl nv
 have iu : 0 < (u - a) ^ i := by
  rcases Rat.le_iff_lt_or_eq.1 hu with g | g
  ·exact (pow_sg i).1 (by grind)
  ·cases i with
   | zero => rw [Rat.pow_zero]; decide
   | succ i =>
    exfalso
    rw [g, Rat.pow_succ, Rat.sub_self, Rat.mul_zero, Rat.zero_mul] at pu
    exact Rat.lt_irrefl pu
 have iv : 0 < (v - a) ^ i := (pow_sg i).1 (by grind)
 have kk : 0 < (u - b) ^ k * (v - b) ^ k := by
  rcases Rat.le_iff_lt_or_eq.1 hv with g | g
  ·exact (pow_sg k).2.2 _ (by grind) (by grind)
  ·cases k with
   | zero => rw [Rat.pow_zero, Rat.pow_zero]; decide +kernel
   | succ k =>
    exfalso
    rw [g, Rat.pow_succ (b - b), Rat.sub_self, Rat.mul_zero, Rat.zero_mul, Rat.mul_zero] at nv
    exact Rat.lt_irrefl nv
 refine ⟨u0, v0, fun e => ?_⟩
 have p1 := Rat.mul_pos pu (show 0 < -((v - a) ^ i * ((v - b) ^ k * wv)) by grind)
 generalize (u - a) ^ i = A at *
 generalize (v - a) ^ i = B at *
 generalize (u - b) ^ k = C at *
 generalize (v - b) ^ k = D at *
 have AB := Rat.mul_pos iu iv
 have p2 : 0 < A * B * (C * D) := Rat.mul_pos AB kk
 have ww : 0 < wu * wv := by
  by_cases c : 0 < wu
  ·exact Rat.mul_pos c (e.1 c)
  ·have c2 : ¬ 0 < wv := fun k => c (e.2 k)
   have := Rat.mul_pos (show 0 < -wu by grind) (show 0 < -wv by grind)
   grind
 have p3 := Rat.mul_pos p2 ww
 grind
theorem flat_no {x : List Rat} {r t : Rat} (h : flatB (flatQ x r) t = true) : actF x r t = [] := by
 have key : ∀ (l : List Rat) (a : Rat), (a :: l).Pairwise (· < ·) -> ∀ z ∈ flatF r a l, z.1 ≤ t -> t ≤ z.2 -> ∀ v ∈ a :: l, v + r ≤ t ∨ t ≤ v - r := by
  intro l
  induction l with
  | nil => intro a _ z hz; simp [flatF] at hz
  | cons b l ih =>
   intro a hp z hz z1 z2 v hv
   obtain ⟨p1, p2⟩ := List.pairwise_cons.1 hp
   obtain ⟨p3, p4⟩ := List.pairwise_cons.1 p2
   have fst : ∀ z ∈ flatF r b l, z.1 ≤ t -> t ≤ z.2 -> a + r ≤ t := fun z hz z1 z2 => by
    have hb := p1 b List.mem_cons_self
    have : ∀ (l : List Rat) (b : Rat), a < b -> (b :: l).Pairwise (· < ·) -> ∀ z ∈ flatF r b l, z.1 ≤ t -> a + r ≤ t := by
     intro l
     induction l with
     | nil => intro b _ _ z hz; simp [flatF] at hz
     | cons c l ih2 =>
      intro b hb hp z hz z1
      obtain ⟨q1, q2⟩ := List.pairwise_cons.1 hp
      have hc := q1 c List.mem_cons_self
      unfold flatF at hz
      split at hz
      ·rcases List.mem_cons.1 hz with rfl | hz
       ·have z1' : b + r ≤ t := z1
        grind
       ·exact ih2 c (by grind) q2 z hz z1
      ·exact ih2 c (by grind) q2 z hz z1
    exact this l b hb p2 z hz z1
   have rest : z ∈ flatF r b l -> v + r ≤ t ∨ t ≤ v - r := fun hq => by
    rcases List.mem_cons.1 hv with e | hv
    ·exact .inl (by rw [e]; exact fst z hq z1 z2)
    ·exact ih b p2 z hq z1 z2 v hv
   unfold flatF at hz
   split at hz
   ·rcases List.mem_cons.1 hz with rfl | hz
    ·have z1' : a + r ≤ t := z1
     have z2' : t ≤ b - r := z2
     rcases List.mem_cons.1 hv with rfl | hv
     ·exact .inl z1'
     ·rcases List.mem_cons.1 hv with rfl | hv
      ·exact .inr z2'
      ·have := p3 v hv
       exact .inr (by grind)
    ·exact rest hz
   ·exact rest hz
 obtain ⟨z, hz, hc⟩ := List.any_eq_true.1 h
 have hc' : (decide (z.1 ≤ t) && decide (t ≤ z.2)) = true := hc
 rw [Bool.and_eq_true, decide_eq_true_eq, decide_eq_true_eq] at hc'
 refine Classical.byContradiction fun k => ?_
 obtain ⟨v, v1, v2, v3⟩ := act_ne.1 k
 have hv : v ∈ cmpL (srt x) := cmpL_mem.2 ((srt_perm x).symm.subset v1)
 have as_ := cmpL_asc (srt_asc x)
 unfold flatQ at hz
 match hl : cmpL (srt x), hv, as_, hz with
 | [], hv, _, _ => simp at hv
 | b :: l, hv, as_, hz =>
  rcases key l b as_ z hz hc'.1 hc'.2 v hv with g | g
  ·grind
  ·grind
theorem pts_sub {x : List Rat} {r : Rat} {Rs : Nat -> List I2} : ∀ {n j : Nat}, j < n -> ∀ y ∈ roundL x r Rs j, y ∈ ptsTo x r Rs n
 | 0, j, h, _, _ => absurd h (Nat.not_lt_zero j)
 | n + 1, j, h, y, hy => by
  rw [ptsTo]
  by_cases e : j = n
  ·subst e; exact List.mem_append.2 (.inr hy)
  ·exact List.mem_append.2 (.inl (pts_sub (by omega) y hy))
theorem lie {N P Q : Int} {x : List Rat} {r : Rat} {bits : Nat} (h : TkIn N P Q x r) {Rs : Nat -> List I2} (hR : ∀ j, j + 1 < (qAg x r).length -> qAw x r j ≠ [] -> PcR x r bits j (Rs j)) {lo hi : Rat} (hlo : lo ∈ x) (b1 : ∀ v ∈ x, lo ≤ v) (b2 : ∀ v ∈ x, v ≤ hi) : ∃ y ∈ ptsTo x r Rs ((qAg x r).length - 1), lo ≤ y.2 ∧ y.1 ≤ hi := by
 have rp := h.rp
 have r2 : r * r ≠ 0 := by have := Rat.mul_pos rp rp; grind
 have s1 : 1 / (r * r) * (r * r) = 1 := qAp r2
 have s0 : 1 / (r * r) ≠ 0 := fun k => by rw [k, Rat.zero_mul] at s1; exact absurd s1 (by decide)
 obtain ⟨w, w1, w2, w3⟩ := hit_ex (sq := 1 / (r * r)) rp hlo b1
 have wh := b2 w w1
 have B := endsQ_brk x r
 have pc : ∀ j, j + 1 < (qAg x r).length -> ∀ t, (qAg x r).getD j 0 ≤ t -> t ≤ (qAg x r).getD (j + 1) 0 -> sumV (actF x r t) (1 / (r * r)) t = qAa (qAw x r j) t := fun j hj t t1 t2 => by
  rw [getD_in hj] at t2
  rw [getD_in (show j < _ by omega)] at t1
  have := B.piece rp s1 hj t1 t2
  rw [this]
  unfold qAw mid2
  rw [getD_in hj, getD_in (show j < _ by omega)]
 have pne : ∀ j, actF x r (mid2 ((qAg x r).getD j 0, (qAg x r).getD (j + 1) 0)) ≠ [] -> qAw x r j ≠ [] := fun j hj => (eqP_ne hj s0).2
 rcases w3 with ⟨j, j1, j2, j3, j4⟩ | ⟨j, u, v, j1, j2, j3, j4, j5, j6, j7, j8⟩ | ⟨j, t, j1, j2, j3, j4, j5, j6⟩
 ·have hlt := asc_lt B.asc (show j + 1 < (qAg x r).length by omega)
  have an := w2 _ j2 j3
  have hp : qAw x r j ≠ [] := by
   refine pne j (act_ne.2 ?_)
   obtain ⟨v, v1, v2, v3⟩ := act_ne.1 an
   have n1 := nbr B.asc (show j + 1 < (qAg x r).length by omega) (B.lo v v1)
   rw [← getD_in (show j + 1 < _ by omega), ← getD_in (show j < _ by omega)] at n1
   refine ⟨v, v1, ?_, ?_⟩ <;> (unfold mid2; dsimp only; rcases n1 with g | g <;> grind)
  have ez := pc j (by omega) _ (Rat.le_of_lt hlt) Rat.le_refl
  refine ⟨((qAg x r).getD (j + 1) 0, (qAg x r).getD (j + 1) 0), pts_sub (j := j) (by omega) _ ?_, j2, Rat.le_trans j3 wh⟩
  unfold roundL
  rw [if_neg hp]
  refine List.mem_append.2 (.inr ?_)
  unfold edgeL
  rw [if_pos ⟨j1, Bool.eq_false_iff.2 fun e => an (flat_no e), by rw [← ez]; exact j4⟩]
  exact List.mem_singleton.2 rfl
 ·have e1 := pc j j1 u j2 (by grind)
  have e2 := pc j j1 v (by grind) j4
  dsimp only at j7 j8
  rw [e1] at j7
  rw [e2] at j8
  have hp : qAw x r j ≠ [] := fun e => by rw [e] at j7; exact Rat.lt_irrefl j7
  have hk := h.wok j1 hp
  obtain ⟨g1, g2, g3⟩ := wP2_sign hp j2 j3 j4 j7 j8
  have ga : (qAg x r).getD j 0 ∈ qAg x r := by rw [getD_in (show j < _ by omega)]; exact List.getElem_mem _
  have gb : (qAg x r).getD (j + 1) 0 ∈ qAg x r := by rw [getD_in j1]; exact List.getElem_mem _
  have ba := (h.ends _ ga).2
  have bb := (h.ends _ gb).2
  have c := sign_cnt chS_small hk.tr hk.ne (u := u) (v := v) (by grind) (by grind) j3 g1 g2 g3
  rw [← cfn_C hk.tr] at c
  obtain ⟨i, i1, i2, i3⟩ := meets_way h j1 hp (hR j j1 hp) j2 j3 j4 c
  refine ⟨(Rs j).getD i (0, 0), pts_sub (j := j) (by omega) _ ?_, by grind, by grind⟩
  unfold roundL
  rw [if_neg hp]
  refine List.mem_append.2 (.inl ?_)
  rw [List.getD_eq_getElem?_getD, List.getElem?_eq_getElem i1]; exact List.getElem_mem _
 ·have an := w2 _ j4 j5
  have hp : qAw x r j ≠ [] := by
   refine pne j (act_ne.2 ?_)
   obtain ⟨v, v1, v2, v3⟩ := act_ne.1 an
   have n1 := nbr B.asc j1 (B.lo v v1)
   have n2 := nbr B.asc j1 (B.hi v v1)
   rw [← getD_in (show j + 1 < _ by omega), ← getD_in (show j < _ by omega)] at n1 n2
   refine ⟨v, v1, ?_, ?_⟩ <;> (unfold mid2; dsimp only; rcases n1 with g | g <;> rcases n2 with g2 | g2 <;> grind)
  have e1 := pc j j1 t (Rat.le_of_lt j2) (Rat.le_of_lt j3)
  dsimp only at j6
  rw [e1] at j6
  obtain ⟨i, k, hev⟩ := wP2_ev hp
  have z : qAa (wP2 x r j) t = 0 := by
   rw [hev t] at j6
   rcases Rat.mul_eq_zero.1 j6 with g | g
   ·exact absurd g (Rat.ne_of_gt ((pow_sg i).1 (by grind)))
   ·rcases Rat.mul_eq_zero.1 g with g | g
    ·exact absurd g ((pow_sg k).2.1 (by grind))
    ·exact g
  obtain ⟨i, i1, i2, i3⟩ := meets_at h j1 hp (hR j j1 hp) j2 j3 z
  refine ⟨(Rs j).getD i (0, 0), pts_sub (j := j) (by omega) _ ?_, by grind, by grind⟩
  unfold roundL
  rw [if_neg hp]
  refine List.mem_append.2 (.inl ?_)
  rw [List.getD_eq_getElem?_getD, List.getElem?_eq_getElem i1]; exact List.getElem_mem _
def radQ (v : Int) : Rat := absQ (numQ v) + Rat.divInt 1 2
theorem radQ_ok (v : Int) : okQ 4 (radQ v) := ((absQ_ok (numQ2 v)).add (sm2_ok (q := Rat.divInt 1 2) (by decide +kernel))).mono (by decide)
theorem law22_radius (v : Int) (h1 : -9223372036854775808 ≤ v) (h2 : v < 9223372036854775808) : Ret Tryz.prog 16 [.int .i64 v] (· = qD (radQ v)) := by
 have n1 := made_Number v h1 h2
 have o1 := numQ2 v
 have oh : okQ 2 (Rat.divInt 1 2) := sm2_ok (by decide +kernel)
 have a1 := ref03_AbsQ (numQ v) (o1.mono (by decide))
 have oa := absQ_ok o1
 have f1 := ref03_FractionQ 1 2 (by decide) (by decide) (by decide) (by decide)
 have a2 := ref03_AddQ (absQ (numQ v)) (Rat.divInt 1 2) (oa.mono (by decide)) (oh.mono (by decide))
 unfold radQ
 clear o1 oh oa
 generalize absQ (numQ v) + Rat.divInt 1 2 = r at *
 generalize absQ (numQ v) = b at *
 generalize numQ v = a at *
 generalize Rat.divInt 1 2 = h at *
 refine qAb tab Tryz.func16 rfl rfl (lblz rfl) (fun w0 F0 => ?_)
 repeat' (first | refine wG ?_ | refine wC n1 ?_ | refine wC a1 ?_ | refine wC f1 ?_ | refine wC a2 ?_ | refine wS ?_ ?_ <;> intro _ | refine finG ?_)
 rfl
theorem num_Z (v : Int) : ∃ A : Int, A.natAbs ≤ 360 ∧ numQ v * ((12 : Int) : Rat) = (A : Rat) := by
 obtain ⟨A, h1, h2⟩ := num_12 v
 refine ⟨A, h1, ?_⟩
 rw [h2, Rat.divInt_eq_div]
 exact qAp (by decide)
theorem rad_Z (v : Int) : ∃ P : Int, 6 ≤ P ∧ P ≤ 366 ∧ radQ v * ((12 : Int) : Rat) = (P : Rat) := by
 obtain ⟨A, h1, h2⟩ := num_Z v
 have c12 : ((12 : Int) : Rat) = 12 := rfl
 have c6 : ((6 : Int) : Rat) = 6 := rfl
 have ch : Rat.divInt 1 2 * 12 = 6 := by decide +kernel
 rw [c12] at h2 ⊢
 unfold radQ
 by_cases h : numQ v < 0
 ·refine ⟨-A + 6, ?_, ?_, ?_⟩
  ·have : (A : Rat) < ((0 : Int) : Rat) := by rw [← h2]; have c0 : ((0 : Int) : Rat) = 0 := rfl; rw [c0]; grind
   have := Rat.intCast_lt_intCast.1 this
   omega
  ·omega
  ·rw [show absQ (numQ v) = -numQ v by unfold absQ; rw [if_pos h], Rat.intCast_add, Rat.intCast_neg, c6]
   grind
 ·refine ⟨A + 6, ?_, ?_, ?_⟩
  ·have : ((0 : Int) : Rat) ≤ (A : Rat) := by rw [← h2]; have c0 : ((0 : Int) : Rat) = 0 := rfl; rw [c0]; grind
   have := Rat.intCast_le_intCast.1 this
   omega
  ·omega
  ·rw [show absQ (numQ v) = numQ v by unfold absQ; rw [if_neg h], Rat.intCast_add, c6]
   grind
theorem rad_bd (v : Int) : radQ v ≤ 31 := by
 have := numQ_bd v
 have h : Rat.divInt 1 2 ≤ 1 := by decide +kernel
 unfold radQ absQ
 split <;> grind
theorem made_tk (raw : List Int) (v : Int) (h0 : (raw.take 5).map numQ ≠ []) : ∃ P, TkIn 12 P 12 ((raw.take 5).map numQ) (radQ v) := by
 obtain ⟨P, p1, p2, p3⟩ := rad_Z v
 refine ⟨P, h0, by rw [List.length_map, List.length_take]; omega, by decide, by decide, by omega, by omega, by decide, by decide, fun w hw => ?_, p3, fun w hw => ?_, by have := rad_bd v; grind⟩
 ·obtain ⟨u, _, rfl⟩ := List.mem_map.1 hw
  obtain ⟨A, a1, a2⟩ := num_Z u
  exact ⟨A, by omega, a2⟩
 ·obtain ⟨u, _, rfl⟩ := List.mem_map.1 hw
  have := numQ_bd u
  constructor <;> grind
theorem ref16_SortQ22 (l : List Rat) (hn : l.length ≤ 200) (hl : ∀ q ∈ l, okQ 1000 q) : Ret Tryz.prog 20 [qsD l] (· = qsD (srt l)) := by
 have h := ref16_Sort (l.map rq) (by rw [List.length_map]; exact hn) (rqs_ok hl)
 rw [qAl] at h
 exact h.args (leQRs l (LeT.refl _))
theorem srt_bd {x : List Rat} (x0 : x ≠ []) : (∀ v ∈ x, (srt x).getD 0 0 ≤ v) ∧ (∀ v ∈ x, v ≤ (srt x).getD ((srt x).length - 1) 0) ∧ (srt x).getD 0 0 ≤ (srt x).getD ((srt x).length - 1) 0 := by
 have hl : 0 < (srt x).length := by rw [srt_len]; exact ne_len x0
 have a := drop_ge (srt_asc x) (m := 0) hl
 have b := take_le (srt_asc x) (m := (srt x).length - 1) (by omega)
 rw [show (srt x).length - 1 + 1 = (srt x).length by omega, List.take_of_length_le (Nat.le_refl _)] at b
 rw [getD_in hl, getD_in (show (srt x).length - 1 < _ by omega)]
 have hm : ∀ v ∈ x, v ∈ srt x := fun v hv => (srt_perm x).symm.subset hv
 exact ⟨fun v hv => a v (hm v hv), fun v hv => b v (hm v hv), b _ (List.getElem_mem _)⟩
theorem ref04_MeetI (X Y : I2) (hX : X.1 ≤ X.2) (hY : Y.1 ≤ Y.2) (oX : okI 150000 X) (oY : okI 150000 Y) : Ret Tryz.prog 21 [iQ X, iQ Y] (· = match meetI X Y with | none => .tup [iD r0 r0, .bool false] | some m => .tup [iQ m, .bool true]) := by
 have h := ref04_Meet (rq X.1) (rq X.2) (rq Y.1) (rq Y.2) ((ok_rq oX.1).up (by decide)) ((ok_rq oX.2).up (by decide)) ((ok_rq oY.1).up (by decide)) ((ok_rq oY.2).up (by decide))
 rw [rv_rq, rv_rq, rv_rq, rv_rq, takeI_of hX, takeI_of hY] at h
 exact h
theorem meet_none {X Y : I2} (h : ¬ (Y.1 ≤ X.2 ∧ X.1 ≤ Y.2)) (hX : X.1 ≤ X.2) (hY : Y.1 ≤ Y.2) : meetI X Y = none := by
 unfold meetI minQ maxQ
 rw [if_pos]
 split <;> split <;> grind
theorem meet_some {X Y : I2} (h : Y.1 ≤ X.2 ∧ X.1 ≤ Y.2) (hX : X.1 ≤ X.2) (hY : Y.1 ≤ Y.2) : ∃ m, meetI X Y = some m := by
 unfold meetI
 rw [if_neg]
 ·exact ⟨_, rfl⟩
 ·unfold minQ maxQ
  split <;> split <;> grind
theorem pts_mem {x : List Rat} {r : Rat} {Rs : Nat -> List I2} {y : I2} : ∀ {n : Nat}, y ∈ ptsTo x r Rs n -> ∃ j, j < n ∧ y ∈ roundL x r Rs j
 | 0, h => by simp [ptsTo] at h
 | n + 1, h => by
  rw [ptsTo] at h
  rcases List.mem_append.1 h with h | h
  ·obtain ⟨j, j1, j2⟩ := pts_mem h
   exact ⟨j, by omega, j2⟩
  ·exact ⟨n, by omega, h⟩
theorem round_mem {x : List Rat} {r : Rat} {Rs : Nat -> List I2} {j : Nat} {y : I2} (h : y ∈ roundL x r Rs j) : qAw x r j ≠ [] ∧ ((∃ i, i < (Rs j).length ∧ y = (Rs j).getD i (0, 0)) ∨ (j + 2 < (qAg x r).length ∧ flatB (flatQ x r) ((qAg x r).getD (j + 1) 0) = false ∧ qAa (qAw x r j) ((qAg x r).getD (j + 1) 0) = 0 ∧ y = ((qAg x r).getD (j + 1) 0, (qAg x r).getD (j + 1) 0))) := by
 unfold roundL at h
 split at h
 ·simp at h
 ·rename_i hp
  refine ⟨hp, ?_⟩
  rcases List.mem_append.1 h with h | h
  ·obtain ⟨i, hi, rfl⟩ := List.getElem_of_mem h
   exact .inl ⟨i, hi, by rw [List.getD_eq_getElem?_getD, List.getElem?_eq_getElem hi]; rfl⟩
  ·unfold edgeL at h
   split at h
   ·rename_i c
    exact .inr ⟨c.1, c.2.1, c.2.2, List.mem_singleton.1 h⟩
   ·simp at h
theorem pts_ok {N P Q : Int} {x : List Rat} {r : Rat} {bits : Nat} (h : TkIn N P Q x r) {Rs : Nat -> List I2} (hR : ∀ j, j + 1 < (qAg x r).length -> qAw x r j ≠ [] -> PcR x r bits j (Rs j)) : ∀ y ∈ ptsTo x r Rs ((qAg x r).length - 1), y.1 ≤ y.2 ∧ okI 150000 y := fun y hy => by
 obtain ⟨j, j1, j2⟩ := pts_mem hy
 obtain ⟨hp, h2⟩ := round_mem j2
 rcases h2 with ⟨i, i1, rfl⟩ | ⟨k1, k2, k3, rfl⟩
 ·obtain ⟨l, l1, l2, l3⟩ := (hR j (by omega) hp).in_
  have n := l3 i i1
  exact ⟨n.le, n.ok⟩
 ·have gb : (qAg x r).getD (j + 1) 0 ∈ qAg x r := by rw [getD_in (show j + 1 < _ by omega)]; exact List.getElem_mem _
  have o := (h.ends _ gb).1.mono (show 2 ≤ 150000 by decide)
  exact ⟨Rat.le_refl, o, o⟩
theorem pts_len' {x : List Rat} {r : Rat} {Rs : Nat -> List I2} (h : ∀ j, j + 1 < (qAg x r).length -> qAw x r j ≠ [] -> (Rs j).length ≤ 10) : ∀ n, n + 1 ≤ (qAg x r).length -> (ptsTo x r Rs n).length ≤ 11 * n
 | 0, _ => Nat.zero_le _
 | n + 1, hn => by
  have a := pts_len' h n (by omega)
  have b : (roundL x r Rs n).length ≤ 11 := by
   unfold roundL
   split
   ·exact Nat.zero_le _
   ·rename_i c
    have := h n (by omega) c
    rw [List.length_append]
    unfold edgeL
    split <;> simp <;> omega
  rw [ptsTo, List.length_append]
  omega
theorem pts_few {x : List Rat} {r : Rat} (h0 : x ≠ []) (hl : x.length ≤ 5) {Rs : Nat -> List I2} (h : ∀ j, j + 1 < (qAg x r).length -> qAw x r j ≠ [] -> (Rs j).length ≤ 10) : (ptsTo x r Rs ((qAg x r).length - 1)).length ≤ 99 := by
 have a := endsQ_len x r
 have b := endsQ_pos (k := r) h0
 have := pts_len' h ((qAg x r).length - 1) (by omega)
 omega
theorem law22_Lie (raw : List Int) (v : Int) (hl : raw.length ≤ 9223372036854775807) (hx : I64 raw) (v1 : -9223372036854775808 ≤ v) (v2 : v < 9223372036854775808) : Ret Tryz.prog 5 [i64s raw, .int .i64 v] (· = .bool true) := by
 have aw := law22_awake
 have nm := made_Numbers raw 5 hl hx (by decide)
 have r1 := law22_radius v v1 v2
 obtain ⟨x, hxx⟩ : ∃ x, (raw.take 5).map numQ = x := ⟨_, rfl⟩
 have lx : x.length ≤ 5 := by rw [← hxx, List.length_map, List.length_take]; omega
 by_cases h0 : x = []
 ·rw [hxx, h0] at nm
  clear hxx lx
  generalize radQ v = ra at *
  refine qAb tab Tryz.func5 rfl rfl (lblz rfl) (fun w0 F0 => ?_)
  repeat' (first | refine wG ?_ | refine wC nm ?_ | refine wC r1 ?_ | refine wC aw ?_ | refine rgK 6 11 [10] ?_ | refine rgK 12 12 [12] ?_ | refine wS ?_ ?_ <;> intro _ | refine finG ?_)
  all_goals first | rfl | (exfalso; omega)
 ·obtain ⟨P, tk⟩ := made_tk raw v (by rw [hxx]; exact h0)
  rw [hxx] at tk nm
  have ox := tk.okx
  have orr := radQ_ok v
  obtain ⟨Rs, q1, T1⟩ := tukey_gen tk (bits := 8) (by decide)
  have so := ref16_SortQ22 x (by omega) fun q hq => (ox q hq).mono (by decide)
  obtain ⟨b1, b2, b3⟩ := srt_bd h0
  have sl := srt_len x
  have lx0 := List.length_pos_iff.2 h0
  have m0 : (srt x).getD 0 0 ∈ x := (srt_perm x).subset (by rw [getD_in (show 0 < (srt x).length by omega)]; exact List.getElem_mem _)
  have m1 : (srt x).getD ((srt x).length - 1) 0 ∈ x := (srt_perm x).subset (by rw [getD_in (show (srt x).length - 1 < (srt x).length by omega)]; exact List.getElem_mem _)
  have o0 := ox _ m0
  have o1 := ox _ m1
  have pf := pts_few h0 lx fun j a b => (q1 j a b).2
  have po := pts_ok tk fun j a b => (q1 j a b).1
  obtain ⟨y, hy, y1, y2⟩ := lie tk (fun j a b => (q1 j a b).1) m0 b1 b2
  obtain ⟨S, hS⟩ : ∃ S, srt x = S := ⟨_, rfl⟩
  rw [hS] at so b3 o0 o1 y1 y2 sl
  have e1 : S.getD (S.length - 1) 0 = S.getD (x.length - 1) 0 := by rw [sl]
  obtain ⟨lo, hlo⟩ : ∃ lo, S.getD 0 0 = lo := ⟨_, rfl⟩
  obtain ⟨hi, hhi⟩ : ∃ hi, S.getD (S.length - 1) 0 = hi := ⟨_, rfl⟩
  rw [hlo] at b3 o0 y1
  rw [hhi] at b3 o1 y2
  have oY : okI 150000 (lo, hi) := ⟨o0.mono (by decide), o1.mono (by decide)⟩
  generalize ptsTo x (radQ v) Rs ((qAg x (radQ v)).length - 1) = p1 at *
  generalize flatQ x (radQ v) = F at *
  generalize radQ v = r at *
  obtain ⟨k, hk, rfl⟩ := List.getElem_of_mem hy
  obtain ⟨n, n1, n2, n3⟩ := least (P := fun j => lo ≤ (p1.getD j (0, 0)).2 ∧ (p1.getD j (0, 0)).1 ≤ hi) k (by rw [List.getD_eq_getElem?_getD, List.getElem?_eq_getElem hk]; exact ⟨y1, y2⟩)
  have gp : ∀ j, j < p1.length -> (p1.getD j (0, 0)).1 ≤ (p1.getD j (0, 0)).2 ∧ okI 150000 (p1.getD j (0, 0)) := fun j hj => po _ (by rw [List.getD_eq_getElem?_getD, List.getElem?_eq_getElem hj]; exact List.getElem_mem _)
  have mt := fun j hj => ref04_MeetI (p1.getD j (0, 0)) (lo, hi) (gp j hj).1 b3 (gp j hj).2 oY
  have me := fun j (hj : j < n) => meet_none (X := p1.getD j (0, 0)) (Y := (lo, hi)) (n3 j hj) (gp j (by omega)).1 b3
  obtain ⟨m, ms⟩ := meet_some (X := p1.getD n (0, 0)) (Y := (lo, hi)) n2 (gp n (by omega)).1 b3
  have nk : n < p1.length := by omega
  clear tk q1 po y1 y2 n2 n3 gp ox hxx hS b1 b2 b3 m0 m1 o0 o1 h0 hx oY hy hk n1
  have en : ((S.length : Int) - 1).toNat = S.length - 1 := by omega
  refine qAb tab Tryz.func5 rfl rfl (lblz rfl) (fun w0 F0 => ?_)
  repeat' (first | refine wG ?_ | refine wC nm ?_ | refine wC r1 ?_ | refine wC T1 ?_ | refine wC so ?_ | refine rgK 6 11 [10] ?_ | refine rgK 12 12 [12] ?_ | refine wS ?_ ?_ <;> intro _ | refine finG ?_)
  refine qAi (fun (i : Nat) => ([(4, .d (.bool false)), (7, .ptr 7 0), (10, .ptr 10 0), (11, .d (.int .i64 i))], [(7, .box 44 [.d (isD p1), .d (isD F)]), (10, .box 32 ((iC (rq lo) (rq hi)).map V.d))])) (fun i => i ≤ n) (fun i => n - i) 0 (by omega) ⟨rfl, rfl, rfl, rfl, rfl⟩ ⟨rfl, (by refine boxEq ?_; rw [en, hlo, hhi]; rfl), trivial⟩ (fun i hi => ?_)
  have mi := mt i (by omega)
  by_cases h3 : i < n
  ·rw [me i h3] at mi
   simp only at mi
   clear mt me T1
   repeat' (first | refine wG ?_ | refine wC mi ?_ | refine rgK 6 11 [10] ?_ | refine rgK 12 12 [12] ?_ | refine wS ?_ ?_ <;> intro _ | refine finG ?_)
   exact ⟨i + 1, by omega, by omega, ⟨rfl, rfl, rfl, iv (by omega), rfl⟩, rfl, rfl, trivial⟩
  ·have e : i = n := by omega
   subst e
   rw [ms] at mi
   simp only at mi
   clear mt me T1
   repeat' (first | refine wG ?_ | refine wC mi ?_ | refine wC aw ?_ | refine rgK 6 11 [10] ?_ | refine rgK 12 12 [12] ?_ | refine wS ?_ ?_ <;> intro _ | refine finG ?_)
   all_goals rfl
end Go.Proofs.YtejigedigmagdaaGreat
