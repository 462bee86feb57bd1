/-
 Contracts of functions of the program, and the layer that they are walked with: Y12 N13 N14 N16 N17 N18 Y13 C10 Y14 S60 S61 N19 Y15 Z02 Z03 Z04 Z07 Y16 VMk S63 S64 Y17 Y18 Y19 Y20 Y21 Y22 Y23 Y24 Y25 Y26 Y27 Y28 Y29 Y30 Z05 Y31 PolZ PolW VUc Y32 Y33 S67 S69 Y34 TukA TukB TukC. Conditions: as each says.
-/
import Derived.Test.YtejigedigmagdaaGreatA09
set_option linter.unnecessarySimpa false
set_option linter.unusedVariables false
set_option linter.unusedSimpArgs false
set_option maxHeartbeats 8000000
namespace Go.Proofs.YtejigedigmagdaaGreat
open Go.Vw
attribute [local irreducible] awp awpL awpR
theorem derP_trim (p : List Rat) : derP (qAd p) = derP p := trim_ext fun i => by rw [cf_der, cf_der, cf_trim]
def ctrQ (p : List Rat) : List Rat := (divP p (gcdP p (derP p))).1
def ctr (p : List Rat) : List (List Rat) := chainL smallP ((ctrQ p).length + 1) (ctrQ p) (derP (ctrQ p))
structure CtrOk (p : List Rat) : Prop where
 g0 : gcdP p (derP p) ≠ []
 tg : Tr (gcdP p (derP p))
 jg : JG p (derP p)
 gl : (gcdP p (derP p)).length ≤ 98
 fit1 : ∃ h l, HtP h p ∧ HtP l (gcdP p (derP p)) ∧ h + (p.length + 1 - (gcdP p (derP p)).length) * l + l ≤ 2000000
 ql : (ctrQ p).length ≤ 98
 fit2 : ∃ M, JS (ctrQ p) (derP (ctrQ p)) M
theorem polynomial_newCounter (P : List R3) (hP : P.length ≤ 99) (kP : ∀ r ∈ P, RatOk r 5000000) (hc : CtrOk (qAd (P.map rv))) : Ret Tryz.prog 153 [rsD P] (· = qssD (ctr (qAd (P.map rv)))) := by
 have d1 := polynomial_Derivative P (by omega) kP
 rw [← derP_trim] at d1
 have hdl : (derP (qAd (P.map rv))).length ≤ 99 := by
  have h1 := trim_len (derC (qAd (P.map rv)))
  have h2 := trim_len (P.map rv)
  rw [derC_len] at h1
  rw [List.length_map] at h2
  show (qAd (derC _)).length ≤ 99
  omega
 obtain ⟨M, m1, m2, m3⟩ := hc.jg.fit
 have hM : M ≤ 2000000 := by
  have := Nat.mul_le_mul_left (M + 1) (show 1 ≤ 3 ^ (if (derP (qAd (P.map rv))).length < (qAd (P.map rv)).length then (qAd (P.map rv)).length else (derP (qAd (P.map rv))).length + 1) from Nat.pow_pos (by decide))
  unfold Bud at m3
  omega
 have g1 := polynomial_GcdJ P ((derP (qAd (P.map rv))).map rq) hP (by rw [List.length_map]; exact hdl) (fun r hr => (kP r hr).up (by decide)) (rqs_ok fun x hx => (m2.okL x hx).mono (by omega)) (by rw [qAl, show qAd (derP (qAd (P.map rv))) = derP (qAd (P.map rv)) from trim_trim _]; exact hc.jg)
 rw [qAl, show qAd (derP (qAd (P.map rv))) = derP (qAd (P.map rv)) from trim_trim _] at g1
 have g2 : Ret Tryz.prog 184 [rsD P, qsD (derP (qAd (P.map rv)))] (· = qsD (gcdP (qAd (P.map rv)) (derP (qAd (P.map rv))))) := g1.args (LeT.cons (LeD.refl _) (leQRs _ (LeT.refl _)))
 obtain ⟨h, l, f1, f2, f3⟩ := hc.fit1
 have v1 := polynomial_DivR P (gcdP (qAd (P.map rv)) (derP (qAd (P.map rv)))) hc.tg hc.g0 (by omega) (fun r hr => (kP r hr).up (by decide)) (by have := hc.gl; omega) f1 f2 f3
 obtain ⟨M2, f4⟩ := hc.fit2
 have ql := hc.ql
 have hM2 : M2 ≤ 2000000 := by
  have b := f4.bud
  have := Nat.mul_le_mul_left (M2 + 1) (show 1 ≤ 3 ^ (ctrQ (qAd (P.map rv))).length from Nat.pow_pos (by decide))
  unfold Bud at b
  omega
 have s1 := polynomial_sturmJ 187 smallP chOk_small (fun p t pl ok => polynomial_small p (by omega) ok t) ((ctrQ (qAd (P.map rv))).map rq) (by rw [List.length_map]; omega) (rqs_ok fun x hx => (f4.ha.okL x hx).mono (by omega)) M2 (by rw [qAl, trim_of f4.ta]; exact f4)
 rw [qAl, trim_of f4.ta, List.length_map] at s1
 have s2 : Ret Tryz.prog 186 [qsD (ctrQ (qAd (P.map rv))), .fn 187 []] (· = qssD (ctr (qAd (P.map rv)))) := s1.args (leQRs _ (LeT.refl _))
 rw [show (divP (qAd (P.map rv)) (gcdP (qAd (P.map rv)) (derP (qAd (P.map rv))))).1 = ctrQ (qAd (P.map rv)) from rfl] at v1
 clear hc f1 f2 f3 f4 m1 m2 m3 g1 s1 kP ql hdl
 generalize ctr (qAd (P.map rv)) = C at *
 generalize ctrQ (qAd (P.map rv)) = Q at *
 generalize (divP (qAd (P.map rv)) (gcdP (qAd (P.map rv)) (derP (qAd (P.map rv))))).2 = Z at *
 generalize gcdP (qAd (P.map rv)) (derP (qAd (P.map rv))) = G at *
 generalize derP (qAd (P.map rv)) = E at *
 refine qAb tab Tryz.func153 rfl rfl (lblz rfl) (fun w0 F0 => ?_)
 repeat' (first | refine wG ?_ | refine wC d1 ?_ | refine wC g2 ?_ | refine wC v1 ?_ | refine wC s2 ?_ | refine wS ?_ ?_ <;> intro _ | refine finG ?_)
 rfl
def vrsF (F : List (List Rat)) (x : Rat) : Int := chg 0 (F.map fun f => sgQ (qAa f x))
def cntF (F : List (List Rat)) (lo hi : Rat) : Int := if lo < hi then vrsF F lo - vrsF F hi else 0
theorem chg_bd : ∀ (l : List Int) (a : Int), 0 ≤ chg a l ∧ chg a l ≤ l.length
 | [], _ => ⟨Int.le_refl _, Int.le_refl _⟩
 | s :: l, a => by
  rw [chg]
  have := chg_bd l (if s ≠ 0 then s else a)
  simp only [List.length_cons]
  split <;> omega
theorem counter_count (F : List (List Rat)) (lo hi : R3) (hF : F.length ≤ 1000) (hf : ∀ f ∈ F, f.length ≤ 13 ∧ ∃ M, Fit f.length f M) (kl : RatOk lo 200000) (kh : RatOk hi 200000) : Ret Tryz.prog 188 [qssD F, rD lo, rD hi] (· = .int .i64 (cntF F (rv lo) (rv hi))) := by
 have gF : ∀ i, i < F.length -> F.getD i [] ∈ F := fun i hi => by
  rw [List.getD_eq_getElem?_getD, List.getElem?_eq_getElem hi]; exact List.getElem_mem hi
 have ch : ∀ x, RatOk x 200000 -> Ret Tryz.prog 207 [qssD F, rD x] (· = .int .i64 (vrsF F (rv x))) := fun x hx => counter_changes F x hF fun i hi => by
  obtain ⟨h1, M, h2⟩ := hf _ (gF i hi)
  exact polynomial_EvalF _ x h2 h1 hx
 have c1 := ch lo kl
 have c2 := ch hi kh
 have cm := rational_Compare lo hi (kl.up (by decide)) (kh.up (by decide))
 have b1 : 0 ≤ vrsF F (rv lo) ∧ vrsF F (rv lo) ≤ 1000 := by
  have := chg_bd (F.map fun f => sgQ (qAa f (rv lo))) 0
  rw [List.length_map] at this
  unfold vrsF; omega
 have b2 : 0 ≤ vrsF F (rv hi) ∧ vrsF F (rv hi) ≤ 1000 := by
  have := chg_bd (F.map fun f => sgQ (qAa f (rv hi))) 0
  rw [List.length_map] at this
  unfold vrsF; omega
 unfold cntF
 unfold cmpQ at cm
 generalize vrsF F (rv lo) = n1 at *
 generalize vrsF F (rv hi) = n2 at *
 clear ch hf gF
 by_cases h : rv lo < rv hi
 ·rw [if_pos h]
  rw [if_pos h] at cm
  refine qAb tab Tryz.func188 rfl rfl (lblz rfl) (fun w0 F0 => ?_)
  repeat' (first | refine wG ?_ | refine wC cm ?_ | refine wC c1 ?_ | refine wC c2 ?_ | refine rg 3 5 ?_ | refine wS ?_ ?_ <;> intro _ | refine finG ?_)
  rfl
 ·rw [if_neg h]
  rw [if_neg h] at cm
  obtain ⟨z, hz⟩ : ∃ z : Int, z = (if rv hi < rv lo then 1 else 0) := ⟨_, rfl⟩
  rw [← hz] at cm
  have z0 : 0 ≤ z := by rw [hz]; split <;> decide
  clear hz
  refine qAb tab Tryz.func188 rfl rfl (lblz rfl) (fun w0 F0 => ?_)
  repeat' (first | refine wG ?_ | refine wC cm ?_ | refine wC c1 ?_ | refine wC c2 ?_ | refine rg 3 5 ?_ | refine wS ?_ ?_ <;> intro _ | refine finG ?_)
  rfl
theorem polynomial_Count (P : List R3) (lo hi : R3) (hP : P.length ≤ 99) (kP : ∀ r ∈ P, RatOk r 5000000) (hc : qAd (P.map rv) ≠ [] -> CtrOk (qAd (P.map rv))) (kl : RatOk lo 200000) (kh : RatOk hi 200000) : Ret Tryz.prog 155 [rsD P, rD lo, rD hi] (· = .int .i64 (if qAd (P.map rv) = [] then -1 else cntF (ctr (qAd (P.map rv))) (rv lo) (rv hi))) := by
 have t1 := polynomial_Trim P (by omega) (fun r hr => (kP r hr).up (by decide))
 have l1 := trim_len (P.map rv)
 rw [List.length_map] at l1
 by_cases h0 : qAd (P.map rv) = []
 ·rw [if_pos h0]
  have hl : (qAd (P.map rv)).length = 0 := by rw [h0]; rfl
  generalize qAd (P.map rv) = p at *
  clear kP hc
  refine qAb tab Tryz.func155 rfl rfl (lblz rfl) (fun w0 F0 => ?_)
  repeat' (first | refine wG ?_ | refine wC t1 ?_ | refine rg 3 4 ?_ | refine wS ?_ ?_ <;> intro _ | refine finG ?_)
  rfl
 ·rw [if_neg h0]
  have hl := ne_len h0
  have hk := hc h0
  have n1 := polynomial_newCounter P hP kP hk
  obtain ⟨M, f⟩ := hk.fit2
  have hfit := f.chain chOk_small ((ctrQ (qAd (P.map rv))).length + 1)
  have cln := chain_len smallP ((ctrQ (qAd (P.map rv))).length + 1) (ctrQ (qAd (P.map rv))) (derP (ctrQ (qAd (P.map rv))))
  have ql := hk.ql
  have c1 := counter_count (ctr (qAd (P.map rv))) lo hi (by unfold ctr; omega) (fun g hg => by
   obtain ⟨g1, M', g2⟩ := hfit g hg
   refine ⟨?_, M', g2⟩
   have b := g2.2
   have b2 := len_lt_pow3 g.length
   by_cases g0 : g.length ≤ 13
   ·omega
   ·exfalso
    have b3 := Nat.pow_le_pow_right (show 0 < 3 by decide) (show 14 ≤ g.length by omega)
    have b4 := Nat.mul_le_mul_right (3 ^ g.length) (show 1 ≤ M' + 1 by omega)
    have b5 : (3 : Nat) ^ 14 = 4782969 := by decide
    unfold Bud at b
    omega) kl kh
  generalize cntF (ctr (qAd (P.map rv))) (rv lo) (rv hi) = v at *
  generalize ctr (qAd (P.map rv)) = C at *
  generalize qAd (P.map rv) = p at *
  clear kP hc hk f hfit
  refine qAb tab Tryz.func155 rfl rfl (lblz rfl) (fun w0 F0 => ?_)
  repeat' (first | refine wG ?_ | refine wC t1 ?_ | refine wC n1 ?_ | refine wC c1 ?_ | refine rg 3 4 ?_ | refine wS ?_ ?_ <;> intro _ | refine finG ?_)
  rfl
theorem okR_of {q : Rat} {k : Nat} (h : okQ k q) (hk : k ≤ 1000000000000) : okR 1000000000000 (rq q) := ⟨Nat.lt_of_lt_of_le (ok_rq h).lm hk, Nat.lt_of_lt_of_le (ok_rq h).ld hk⟩
theorem ref04_Same (a b c d : R3) (ha : okR 1000000000000 a) (hb : okR 1000000000000 b) (hc : okR 1000000000000 c) (hd : okR 1000000000000 d) : Ret Tryz.prog 14 [iD a b, iD c d] (· = .bool (decide (a = c) && decide (b = d))) := by
 have h1 := ref03_Same a c ha hc
 have h2 := ref03_Same b d hb hd
 generalize decide (a = c) = x at *
 generalize decide (b = d) = y at *
 cases x <;> cases y
 all_goals
  refine qAb tab Tryz.func14 rfl rfl (lblz rfl) (fun w0 F0 => ?_)
  repeat' (first | refine wG ?_ | refine wC h1 ?_ | refine wC h2 ?_ | refine wS ?_ ?_ <;> intro _ | refine finG ?_)
  rfl
theorem ref04_SameI (i j : I2) (hi : okI 10000000 i) (hj : okI 10000000 j) : Ret Tryz.prog 14 [iQ i, iQ j] (· = .bool (decide (i = j))) := by
 have := ref04_Same (rq i.1) (rq i.2) (rq j.1) (rq j.2) (okR_of hi.1 (by decide)) (okR_of hi.2 (by decide)) (okR_of hj.1 (by decide)) (okR_of hj.2 (by decide))
 have e : (decide (rq i.1 = rq j.1) && decide (rq i.2 = rq j.2)) = decide (i = j) := by
  rw [← Bool.decide_and]
  refine decide_eq_decide.2 ⟨fun h => Prod.ext (rq_inj h.1) (rq_inj h.2), fun h => by rw [h]; exact ⟨rfl, rfl⟩⟩
 rw [e] at this
 exact this
theorem ref04_Meet (a b c d : R3) (ha : RatOk a 200000) (hb : RatOk b 200000) (hc : RatOk c 200000) (hd : RatOk d 200000) : Ret Tryz.prog 21 [iD a b, iD c d] (· = match meetI (takeI (rv a) (rv b)) (takeI (rv c) (rv d)) with | none => .tup [iD r0 r0, .bool false] | some m => .tup [iQ m, .bool true]) := by
 have t1 := ref04_Take a b ha hb
 have o1 := takeI_ok (k := 200000) (okQ_rv ha (by decide)) (okQ_rv hb (by decide)) (by decide)
 have q1 := takeI_le (rv a) (rv b)
 generalize takeI (rv a) (rv b) = i at *
 obtain ⟨p, q⟩ := i
 obtain ⟨op, oq⟩ := o1
 simp only at op oq q1
 have t2 := ref04_Take c d hc hd
 have o2 := takeI_ok (k := 200000) (okQ_rv hc (by decide)) (okQ_rv hd (by decide)) (by decide)
 have q2 := takeI_le (rv c) (rv d)
 generalize takeI (rv c) (rv d) = j at *
 obtain ⟨s, t⟩ := j
 obtain ⟨os, ot⟩ := o2
 simp only at os ot q2
 have m1 := ref03_MaxQ p s (op.mono (by decide)) (os.mono (by decide))
 have m2 := ref03_MinQ q t (oq.mono (by decide)) (ot.mono (by decide))
 have o3 := okQ_maxQ op os
 have o4 := okQ_minQ oq ot
 unfold meetI
 simp only
 generalize maxQ p s = x at *
 generalize minQ q t = y at *
 have hl := ref03_LessQ y x (o4.mono (by decide)) (o3.mono (by decide))
 by_cases h : y < x
 ·rw [decide_eq_true h] at hl
  rw [if_pos h]
  refine qAb tab Tryz.func21 rfl rfl (lblz rfl) (fun w0 F0 => ?_)
  repeat' (first | refine wG ?_ | refine wC t1 ?_ | refine wC t2 ?_ | refine wC m1 ?_ | refine wC m2 ?_ | refine wC hl ?_ | refine rg 1 3 ?_ | refine rgK 2 12 [6, 7] ?_ | refine wS ?_ ?_ <;> intro _ | refine finTG ?_)
  exact leT
 ·rw [decide_eq_false h] at hl
  rw [if_neg h]
  refine qAb tab Tryz.func21 rfl rfl (lblz rfl) (fun w0 F0 => ?_)
  repeat' (first | refine wG ?_ | refine wC t1 ?_ | refine wC t2 ?_ | refine wC m1 ?_ | refine wC m2 ?_ | refine wC hl ?_ | refine rg 1 3 ?_ | refine rgK 2 12 [6, 7] ?_ | refine wS ?_ ?_ <;> intro _ | refine finG ?_)
  rfl
set_option maxHeartbeats 4000000
theorem interval_hull (x : Rat) (l : List Rat) (hl : l.length < 10000000) (h : ∀ q ∈ x :: l, okQ 2000000 q) : Ret Tryz.prog 88 [qD x, qsD l] (· = iQ (hullL x l)) := by
 have hx : okQ 2000000 x := h x (List.mem_cons_self ..)
 have h' : ∀ q ∈ l, okQ 2000000 q := fun q hq => h q (List.mem_cons_of_mem _ hq)
 refine qAb tab Tryz.func88 rfl rfl (lblz rfl) (fun w0 F0 => ?_)
 repeat' (first | refine wG ?_ | refine rg 10 5 ?_ | refine wS ?_ ?_ <;> intro _ | refine finG ?_)
 refine qAi (fun (i : Nat) => ([(11, .d (qsD l)), (12, .d (.int .i64 l.length)), (13, .d (.int .i64 i)), (4, .ptr 4 0), (5, .ptr 5 0)], [(4, .box 32 zI), (5, .box 32 ((iC (rq ((l.take i).foldl minQ x)) (rq ((l.take i).foldl maxQ x))).map V.d))])) (fun i => i ≤ l.length) (fun i => l.length - i) 0 (by omega) ?_ ?_ (fun i hi => ?_)
 ·exact ⟨rfl, rfl, rfl, rfl, rfl, rfl⟩
 ·exact ⟨rfl, rfl, trivial⟩
 by_cases h3 : i < l.length
 ·have hk := take_ok (k := 2000000) hx h' i
  have hg := getD_ok h' h3
  have e1 := foldl_take minQ x l h3
  have e2 := foldl_take maxQ x l h3
  obtain ⟨y, hy⟩ : ∃ y, l.getD i 0 = y := ⟨_, rfl⟩
  rw [hy] at e1 e2 hg
  obtain ⟨m, hm⟩ : ∃ m, (l.take i).foldl minQ x = m := ⟨_, rfl⟩
  obtain ⟨n, hn⟩ : ∃ n, (l.take i).foldl maxQ x = n := ⟨_, rfl⟩
  rw [hm] at e1
  rw [hn] at e2
  have hk1 := hk.1
  have hk2 := hk.2
  rw [hm] at hk1
  rw [hn] at hk2
  rw [hm, hn]
  have c1 := rational_CompareQ y m (hg.mono (by decide)) (hk1.mono (by decide))
  have c2 := rational_CompareQ y n (hg.mono (by decide)) (hk2.mono (by decide))
  have p1 := cmpQ_neg y m
  have p2 := cmpQ_pos y n
  obtain ⟨u, hu⟩ : ∃ u, cmpQ y m = u := ⟨_, rfl⟩
  obtain ⟨v, hv⟩ : ∃ v, cmpQ y n = v := ⟨_, rfl⟩
  rw [hu] at c1 p1
  rw [hv] at c2 p2
  rw [← hy] at c1 c2
  rw [show minQ m y = if y < m then y else m from rfl] at e1
  rw [show maxQ n y = if n < y then y else n from rfl] at e2
  by_cases b1 : y < m
  ·have u1 := p1.2 b1
   rw [if_pos b1] at e1
   by_cases b2 : n < y
   ·have v1 := p2.2 b2
    rw [if_pos b2] at e2
    clear p1 p2 hk hm hn
    repeat' (first | refine wG ?_ | refine wC c1 ?_ | refine wC c2 ?_ | refine rg 10 5 ?_ | refine wS ?_ ?_ <;> intro _ | refine finG ?_)
    exact ⟨i + 1, by omega, by omega, ⟨rfl, rfl, iv (by omega), rfl, rfl, rfl⟩, rfl, by rw [e1, e2, ← hy]; rfl, trivial⟩
   ·have v1 := mt p2.1 b2
    rw [if_neg b2] at e2
    clear p1 p2 hk hm hn
    repeat' (first | refine wG ?_ | refine wC c1 ?_ | refine wC c2 ?_ | refine rg 10 5 ?_ | refine wS ?_ ?_ <;> intro _ | refine finG ?_)
    exact ⟨i + 1, by omega, by omega, ⟨rfl, rfl, iv (by omega), rfl, rfl, rfl⟩, rfl, by rw [e1, e2, ← hy]; rfl, trivial⟩
  ·have u1 := mt p1.1 b1
   rw [if_neg b1] at e1
   by_cases b2 : n < y
   ·have v1 := p2.2 b2
    rw [if_pos b2] at e2
    clear p1 p2 hk hm hn
    repeat' (first | refine wG ?_ | refine wC c1 ?_ | refine wC c2 ?_ | refine rg 10 5 ?_ | refine wS ?_ ?_ <;> intro _ | refine finG ?_)
    exact ⟨i + 1, by omega, by omega, ⟨rfl, rfl, iv (by omega), rfl, rfl, rfl⟩, rfl, by rw [e1, e2, ← hy]; rfl, trivial⟩
   ·have v1 := mt p2.1 b2
    rw [if_neg b2] at e2
    clear p1 p2 hk hm hn
    repeat' (first | refine wG ?_ | refine wC c1 ?_ | refine wC c2 ?_ | refine rg 10 5 ?_ | refine wS ?_ ?_ <;> intro _ | refine finG ?_)
    exact ⟨i + 1, by omega, by omega, ⟨rfl, rfl, iv (by omega), rfl, rfl, rfl⟩, rfl, by rw [e1, e2]; rfl, trivial⟩
 ·have e : l.take i = l := List.take_of_length_le (by omega)
  rw [e]
  have ho := hullL_ok l x x hx hx h'
  have n1 := interval_numberQ (l.foldl minQ x) (ho.1.mono (by decide))
  have n2 := interval_numberQ (l.foldl maxQ x) (ho.2.mono (by decide))
  unfold hullL
  generalize l.foldl minQ x = m at *
  generalize l.foldl maxQ x = n at *
  repeat' (first | refine wG ?_ | refine wC n1 ?_ | refine wC n2 ?_ | refine rg 10 5 ?_ | refine wS ?_ ?_ <;> intro _ | refine finG ?_)
  rfl
theorem interval_Hull (a b c d : R3) (ha : RatOk a 500000) (hb : RatOk b 500000) (hc : RatOk c 500000) (hd : RatOk d 500000) : Ret Tryz.prog 40 [iD a b, iD c d] (· = iQ (hullI (takeI (rv a) (rv b)) (takeI (rv c) (rv d)))) := by
 have t1 := interval_value a b ha hb
 have o1 := takeI_ok (k := 500000) (okQ_rv ha (by decide)) (okQ_rv hb (by decide)) (by decide)
 have q1 := takeI_le (rv a) (rv b)
 generalize takeI (rv a) (rv b) = i at *
 obtain ⟨p, q⟩ := i
 obtain ⟨op, oq⟩ := o1
 simp only at op oq q1
 have t2 := interval_value c d hc hd
 have o2 := takeI_ok (k := 500000) (okQ_rv hc (by decide)) (okQ_rv hd (by decide)) (by decide)
 have q2 := takeI_le (rv c) (rv d)
 generalize takeI (rv c) (rv d) = j at *
 obtain ⟨s, t⟩ := j
 obtain ⟨os, ot⟩ := o2
 simp only at os ot q2
 have hh := interval_hull p [q, s, t] (by simp) (by
  intro x hx
  simp only [List.mem_cons, List.not_mem_nil, or_false] at hx
  rcases hx with h | h | h | h <;> rw [h]
  ·exact op.mono (by decide)
  ·exact oq.mono (by decide)
  ·exact os.mono (by decide)
  ·exact ot.mono (by decide))
 refine qAb tab Tryz.func40 rfl rfl (lblz rfl) (fun w0 F0 => ?_)
 repeat' (first | refine wG ?_ | refine wC t1 ?_ | refine wC t2 ?_ | refine wC hh ?_ | refine rg 1 3 ?_ | refine wS ?_ ?_ <;> intro _ | refine finG ?_)
 rfl
theorem interval_Width (a b : R3) (ha : RatOk a 500000) (hb : RatOk b 500000) : Ret Tryz.prog 110 [iD a b] (· = qD ((takeI (rv a) (rv b)).2 - (takeI (rv a) (rv b)).1)) := by
 have t1 := interval_value a b ha hb
 have o1 := takeI_ok (k := 500000) (okQ_rv ha (by decide)) (okQ_rv hb (by decide)) (by decide)
 have q1 := takeI_le (rv a) (rv b)
 generalize takeI (rv a) (rv b) = i at *
 obtain ⟨p, q⟩ := i
 obtain ⟨op, oq⟩ := o1
 simp only at op oq q1
 have m1 := rational_SubQ q p (oq.mono (by decide)) (op.mono (by decide))
 refine qAb tab Tryz.func110 rfl rfl (lblz rfl) (fun w0 F0 => ?_)
 repeat' (first | refine wG ?_ | refine wC t1 ?_ | refine wC m1 ?_ | refine wS ?_ ?_ <;> intro _ | refine finG ?_)
 rfl
theorem interval_Mid (a b : R3) (ha : RatOk a 500000) (hb : RatOk b 500000) : Ret Tryz.prog 55 [iD a b] (· = qD (((takeI (rv a) (rv b)).1 + (takeI (rv a) (rv b)).2) / 2)) := by
 have t1 := interval_value a b ha hb
 have o1 := takeI_ok (k := 500000) (okQ_rv ha (by decide)) (okQ_rv hb (by decide)) (by decide)
 have q1 := takeI_le (rv a) (rv b)
 generalize takeI (rv a) (rv b) = i at *
 obtain ⟨p, q⟩ := i
 obtain ⟨op, oq⟩ := o1
 simp only at op oq q1
 have m1 := rational_AddQ p q (op.mono (by decide)) (oq.mono (by decide))
 have m2 := rational_FromIntQ 2 (by decide) (by decide)
 have o2 : okQ 10000000 ((2 : Int) : Rat) := okQ_int (by decide)
 have m3 := rational_DivQ (p + q) ((2 : Int) : Rat) ((op.add oq).mono (by decide)) o2
 rw [if_neg (by decide)] at m3
 refine qAb tab Tryz.func55 rfl rfl (lblz rfl) (fun w0 F0 => ?_)
 repeat' (first | refine wG ?_ | refine wC t1 ?_ | refine wC m1 ?_ | refine wC m2 ?_ | refine wC m3 ?_ | refine wS ?_ ?_ <;> intro _ | refine finG ?_)
 rfl
set_option maxHeartbeats 8000000
set_option maxHeartbeats 4000000
set_option maxHeartbeats 8000000
def smB (l : List Rat) : Bool := l.all fun x => decide (x.num.natAbs < 4294967296) && decide (x.den < 4294967296)
set_option maxHeartbeats 4000000
set_option maxHeartbeats 8000000
theorem clamp_ok {d k : Rat} {n m : Nat} (hd : okQ n d) (hk : okQ m k) (hn : n ≤ m) : okQ m (clampQ d k) := by
 unfold clampQ
 split
 ·exact hk.neg
 ·split
  ·exact hk
  ·exact hd.mono hn
theorem hub_ok {k t : Rat} {n : Nat} (hk : okQ n k) (ht : okQ n t) (h1 : 1 < n) : ∀ {x : List Rat}, (∀ v ∈ x, okQ n v) -> okQ (2 + x.length * (2 * n)) (hub x k t)
 | [], _ => okQ_zero (by omega)
 | v :: x, h => by
  have ih := hub_ok hk ht h1 (x := x) fun u hu => h u (List.mem_cons_of_mem _ hu)
  have c := clamp_ok ((h v List.mem_cons_self).sub ht) (hk.mono (show n ≤ n + n by omega)) (Nat.le_refl _)
  have := c.add ih
  refine okQ.mono this ?_
  rw [List.length_cons, Nat.add_mul]
  omega
theorem mroots_near (x t r : Rat) (hx : okQ 10000 x) (ht : okQ 10000 t) (hr : okQ 10000 r) : Ret Tryz.prog 84 [qD x, qD t, qD r] (· = .bool (decide (absQ (x - t) < r))) := by
 have s1 := rational_SubQ x t (hx.mono (by decide)) (ht.mono (by decide))
 have ox := (hx.sub ht).mono (show 10000 + 10000 ≤ 20000 by decide)
 have a1 := rational_AbsB (x - t) (ox.mono (by decide))
 have oa : okQ 20000 (absQ (x - t)) := by
  unfold absQ
  split
  ·exact ox.neg
  ·exact ox
 have cm := rational_CompareQ (absQ (x - t)) r (oa.mono (by decide)) (hr.mono (by decide))
 have e : (cmpQ (absQ (x - t)) r < 0) ↔ absQ (x - t) < r := by
  unfold cmpQ
  constructor
  ·intro h
   split at h
   ·assumption
   ·split at h <;> exact absurd h (by decide)
  ·intro h
   rw [if_pos h]; decide
 generalize absQ (x - t) = a at *
 generalize x - t = d at *
 generalize cmpQ a r = c at *
 rw [show decide (a < r) = decide (c < 0) from decide_eq_decide.2 e.symm]
 clear e ox oa
 refine qAb tab Tryz.func84 rfl rfl (lblz rfl) (fun w0 F0 => ?_)
 repeat' (first | refine wG ?_ | refine wC s1 ?_ | refine wC a1 ?_ | refine wC cm ?_ | refine rg 1 5 ?_ | refine wS ?_ ?_ <;> intro _ | refine finG ?_)
 rfl
theorem clamp_near {d k : Rat} (hk : 0 < k) : clampQ d k = if absQ d < k then d else k * ((d.num.sign : Int) : Rat) := by
 have sg : d.num.sign = if d < 0 then -1 else if 0 < d then 1 else 0 := by
  rcases sg_cases d with ⟨h1, h2⟩ | ⟨h1, h2⟩ | ⟨h1, h2⟩
  ·rw [if_neg (by grind), if_pos h1]; exact h2
  ·subst h1; rfl
  ·rw [if_pos h1]; exact h2
 unfold clampQ absQ
 rw [sg]
 have e1 : (((-1 : Int)) : Rat) = -1 := rfl
 have e2 : (((1 : Int)) : Rat) = 1 := rfl
 by_cases h : d < 0
 ·rw [if_pos h, if_pos h]
  split
  ·rw [if_neg (by grind), e1]; grind
  ·rw [if_neg (by grind)]
   split
   ·rfl
   ·rw [e1]; grind
 ·rw [if_neg h, if_neg h]
  rw [if_neg (by grind)]
  split
  ·rw [if_neg (by grind), if_pos (by grind), e2]; grind
  ·split
   ·rfl
   ·rw [if_pos (by grind), e2]; grind
theorem hub_step {x : List Rat} {k t : Rat} {i : Nat} (h : i < x.length) : hub (x.take (i + 1)) k t = hub (x.take i) k t + clampQ (x.getD i 0 - t) k := by
 rw [List.take_add_one, List.getElem?_eq_getElem h, hub_append, List.getD_eq_getElem?_getD, List.getElem?_eq_getElem h]
 show _ + (clampQ (x[i] - t) k + 0) = _
 rw [Rat.add_zero]; rfl
theorem mroots_huber (x : List Rat) (k t : Rat) (hl : x.length ≤ 200) (hx : ∀ v ∈ x, okQ 1000 v) (ok : okQ 1000 k) (ot : okQ 1000 t) (hk : 0 < k) : Ret Tryz.prog 36 [qsD x, qD k, qD t] (· = qD (hub x k t)) := by
 have og : ∀ i, okQ 1000 (x.getD i 0) := fun i => ok_cf hx (by decide) i
 obtain ⟨H, hH⟩ : ∃ H : Nat -> Rat, ∀ i, H i = hub (x.take i) k t := ⟨fun i => hub (x.take i) k t, fun _ => rfl⟩
 have h0 : H 0 = 0 := by rw [hH]; rfl
 have oH : ∀ i, okQ 500000 (H i) := fun i => by
  rw [hH]
  refine (hub_ok ok ot (by decide) (x := x.take i) fun v hv => hx v (List.mem_of_mem_take hv)).mono ?_
  have := Nat.mul_le_mul_right (2 * 1000) (show (x.take i).length ≤ 200 by rw [List.length_take]; omega)
  omega
 have hs : ∀ i, i < x.length -> H (i + 1) = H i + clampQ (x.getD i 0 - t) k := fun i hi => by rw [hH, hH]; exact hub_step hi
 rw [show hub x k t = H x.length by rw [hH, List.take_of_length_le (Nat.le_refl _)]]
 clear hH hx
 refine qAb tab Tryz.func36 rfl rfl (lblz rfl) (fun w0 F0 => ?_)
 repeat' (first | refine wG ?_ | refine rg 7 4 ?_ | refine wS ?_ ?_ <;> intro _ | refine finG ?_)
 refine awp_conv ((Conv.box 7 (cs := [.bool false, .nils, .nils]) (rC r0) rfl leL).trans (Conv.box 6 (cs := [.bool false, .nils, .nils]) (rC r0) rfl leL)) ?_
 refine qAi (fun (i : Nat) => ([(0, .d (qsD x)), (4, .ptr 4 0), (5, .ptr 5 0), (6, .ptr 6 0), (7, .ptr 7 0), (11, .d (qsD x)), (12, .d (.int .i64 x.length)), (13, .d (.int .i64 i))], [(4, .box 27 ((rC (rq k)).map V.d)), (5, .box 27 ((rC (rq t)).map V.d)), (6, .box 27 ((rC r0).map V.d)), (7, .box 27 ((rC (rq (H i))).map V.d))])) (fun i => i ≤ x.length) (fun i => x.length - i) 0 (by omega) ⟨rfl, rfl, rfl, rfl, rfl, rfl, rfl, rfl, rfl⟩ ⟨rfl, rfl, rfl, (by rw [h0, rq_zero']; rfl), trivial⟩ (fun i hi => ?_)
 by_cases h3 : i < x.length
 ·have s1 := rational_SubQ (x.getD i 0) t ((og i).mono (by decide)) (ot.mono (by decide))
  have od : okQ 2000 (x.getD i 0 - t) := ((og i).sub ot).mono (by decide)
  have n1 := mroots_near (x.getD i 0) t k ((og i).mono (by decide)) (ot.mono (by decide)) (ok.mono (by decide))
  have sg := rational_SignQ (x.getD i 0 - t) (od.mono (by decide))
  have sb : -1 ≤ (x.getD i 0 - t).num.sign ∧ (x.getD i 0 - t).num.sign ≤ 1 := by
   rcases sg_cases (x.getD i 0 - t) with ⟨_, h2⟩ | ⟨_, h2⟩ | ⟨_, h2⟩ <;> (rw [show (x.getD i 0 - t).num.sign = sgQ (x.getD i 0 - t) from rfl, h2]; decide)
  have f1 := rational_FromIntQ (x.getD i 0 - t).num.sign (by omega) (by omega)
  have m1 := rational_MulQ k (((x.getD i 0 - t).num.sign : Int) : Rat) (ok.mono (by decide)) ((ok_intW (by omega)).mono (by decide))
  have a1 := rational_AddQ (H i) (clampQ (x.getD i 0 - t) k) ((oH i).mono (by decide)) ((clamp_ok od (ok.mono (show 1000 ≤ 2000 by decide)) (Nat.le_refl _)).mono (by decide))
  rw [← hs i h3] at a1
  rw [clamp_near hk] at a1
  clear oH hs og od
  generalize (x.getD i 0 - t).num.sign = z at *
  by_cases c : absQ (x.getD i 0 - t) < k
  ·rw [decide_eq_true c] at n1
   rw [if_pos c] at a1
   repeat' (first | refine wG ?_ | refine wC s1 ?_ | refine wC n1 ?_ | refine wC a1 ?_ | refine rg 7 4 ?_ | refine wS ?_ ?_ <;> intro _ | refine finG ?_)
   exact ⟨i + 1, by omega, by omega, ⟨rfl, rfl, rfl, rfl, rfl, rfl, rfl, iv (by omega), rfl⟩, rfl, rfl, rfl, rfl, trivial⟩
  ·rw [decide_eq_false c] at n1
   rw [if_neg c] at a1
   repeat' (first | refine wG ?_ | refine wC s1 ?_ | refine wC n1 ?_ | refine wC sg ?_ | refine wC f1 ?_ | refine wC m1 ?_ | refine wC a1 ?_ | refine rg 7 4 ?_ | refine wS ?_ ?_ <;> intro _ | refine finG ?_)
   exact ⟨i + 1, by omega, by omega, ⟨rfl, rfl, rfl, rfl, rfl, rfl, rfl, iv (by omega), rfl⟩, rfl, rfl, rfl, rfl, trivial⟩
 ·have e : i = x.length := by omega
  subst e
  clear oH hs og
  repeat' (first | refine wG ?_ | refine rg 7 4 ?_ | refine wS ?_ ?_ <;> intro _ | refine finG ?_)
  rfl
theorem Huber_zero (v : Rat) (hv : okQ 1000000 v) : Ret Tryz.prog 37 [qD v] (· = .bool (decide (v = 0))) := by
 have sg := rational_SignQ v (hv.mono (by decide))
 have z := sign_zero_iff (q := v)
 rw [show decide (v = 0) = decide (v.num.sign = 0) from decide_eq_decide.2 z.symm]
 generalize v.num.sign = s at *
 refine qAb tab Tryz.func37 rfl rfl (lblz rfl) (fun w0 F0 => ?_)
 repeat' (first | refine wG ?_ | refine wC sg ?_ | refine wS ?_ ?_ <;> intro _ | refine finG ?_)
 rfl
theorem Huber_neg (v : Rat) (hv : okQ 1000000 v) : Ret Tryz.prog 41 [qD v] (· = .bool (decide (v < 0))) := by
 have sg := rational_SignQ v (hv.mono (by decide))
 have z : v.num.sign < 0 ↔ v < 0 := by rw [← num_lt0, ← Int.not_le, ← Int.not_le, Int.sign_nonneg_iff]
 rw [show decide (v < 0) = decide (v.num.sign < 0) from decide_eq_decide.2 z.symm]
 generalize v.num.sign = s at *
 refine qAb tab Tryz.func41 rfl rfl (lblz rfl) (fun w0 F0 => ?_)
 repeat' (first | refine wG ?_ | refine wC sg ?_ | refine wS ?_ ?_ <;> intro _ | refine finG ?_)
 rfl
theorem index_some (fid : FuncId) (l : List Rat) (P : Rat -> Prop) [DecidablePred P] (n : Nat) (hn : n < l.length) (hl : l.length ≤ 1000000) (hf : ∀ i, i ≤ n -> Ret Tryz.prog fid [qD (l.getD i 0)] (· = .bool (decide (P (l.getD i 0))))) (h1 : P (l.getD n 0)) (h2 : ∀ j, j < n -> ¬ P (l.getD j 0)) : Ret Tryz.prog 39 [qsD l, .fn fid []] (· = .int .i64 n) := by
 refine qAb tab Tryz.func39 rfl rfl (lblz rfl) (fun w0 F0 => ?_)
 repeat' (first | refine wG ?_ | refine wS ?_ ?_ <;> intro _ | refine finG ?_)
 refine qAi (fun (i : Nat) => ([(0, .d (qsD l)), (1, .d (.fn fid [])), (7, .d (.int .i64 l.length)), (8, .d (.int .i64 i))], [])) (fun i => i ≤ n) (fun i => l.length - i) 0 (by omega) ⟨rfl, rfl, rfl, rfl, rfl⟩ trivial (fun i hi => ?_)
 have c := hf i hi
 by_cases h3 : i < n
 ·rw [decide_eq_false (h2 i h3)] at c
  clear hf h2
  repeat' (first | refine wG ?_ | refine wC c ?_ | refine wS ?_ ?_ <;> intro _ | refine finG ?_)
  exact ⟨i + 1, by omega, by omega, ⟨rfl, rfl, rfl, iv (by omega), rfl⟩, trivial⟩
 ·have e : i = n := by omega
  subst e
  rw [decide_eq_true h1] at c
  clear hf h2
  repeat' (first | refine wG ?_ | refine wC c ?_ | refine wS ?_ ?_ <;> intro _ | refine finG ?_)
  rfl
theorem index_none (fid : FuncId) (l : List Rat) (P : Rat -> Prop) [DecidablePred P] (hl : l.length ≤ 1000000) (hf : ∀ i, i < l.length -> Ret Tryz.prog fid [qD (l.getD i 0)] (· = .bool (decide (P (l.getD i 0))))) (h2 : ∀ j, j < l.length -> ¬ P (l.getD j 0)) : Ret Tryz.prog 39 [qsD l, .fn fid []] (· = .int .i64 (-1)) := by
 refine qAb tab Tryz.func39 rfl rfl (lblz rfl) (fun w0 F0 => ?_)
 repeat' (first | refine wG ?_ | refine wS ?_ ?_ <;> intro _ | refine finG ?_)
 refine qAi (fun (i : Nat) => ([(0, .d (qsD l)), (1, .d (.fn fid [])), (7, .d (.int .i64 l.length)), (8, .d (.int .i64 i))], [])) (fun i => i ≤ l.length) (fun i => l.length - i) 0 (by omega) ⟨rfl, rfl, rfl, rfl, rfl⟩ trivial (fun i hi => ?_)
 by_cases h3 : i < l.length
 ·have c := hf i h3
  rw [decide_eq_false (h2 i h3)] at c
  clear hf h2
  repeat' (first | refine wG ?_ | refine wC c ?_ | refine wS ?_ ?_ <;> intro _ | refine finG ?_)
  exact ⟨i + 1, by omega, by omega, ⟨rfl, rfl, rfl, iv (by omega), rfl⟩, trivial⟩
 ·have e : i = l.length := by omega
  subst e
  clear hf h2
  repeat' (first | refine wG ?_ | refine wS ?_ ?_ <;> intro _ | refine finG ?_)
  rfl
def chkErr (x : List Rat) (r : Rat) : Int := if x.length = 0 then 10 else if 64 < x.length then 2 else if r ≤ 0 then 1 else 0
theorem sign_le0 {r : Rat} : r.num.sign ≤ 0 ↔ r ≤ 0 := by
 rcases sg_cases r with ⟨h1, h2⟩ | ⟨h1, h2⟩ | ⟨h1, h2⟩
 ·rw [show r.num.sign = 1 from h2]; constructor <;> intro h <;> first | exact absurd h (by decide) | grind
 ·subst h1; exact ⟨fun _ => Rat.le_refl, fun _ => by decide⟩
 ·rw [show r.num.sign = -1 from h2]; exact ⟨fun _ => Rat.le_of_lt h1, fun _ => by decide⟩
theorem mroots_check (x : List Rat) (r : Rat) (hr : okQ 1000000 r) : Ret Tryz.prog 34 [qsD x, qD r] (· = .int .i64 (chkErr x r)) := by
 have sg := rational_SignQ r (hr.mono (by decide))
 have z := sign_le0 (r := r)
 unfold chkErr
 by_cases h0 : x.length = 0
 ·rw [if_pos h0]
  clear z sg
  refine qAb tab Tryz.func34 rfl rfl (lblz rfl) (fun w0 F0 => ?_)
  repeat' (first | refine wG ?_ | refine wS ?_ ?_ <;> intro _ | refine finG ?_)
  rfl
 ·rw [if_neg h0]
  by_cases h1 : 64 < x.length
  ·rw [if_pos h1]
   clear z sg
   refine qAb tab Tryz.func34 rfl rfl (lblz rfl) (fun w0 F0 => ?_)
   repeat' (first | refine wG ?_ | refine wS ?_ ?_ <;> intro _ | refine finG ?_)
   rfl
  ·rw [if_neg h1]
   by_cases h2 : r ≤ 0
   ·rw [if_pos h2]
    have h3 := z.2 h2
    generalize r.num.sign = s at *
    refine qAb tab Tryz.func34 rfl rfl (lblz rfl) (fun w0 F0 => ?_)
    repeat' (first | refine wG ?_ | refine wC sg ?_ | refine wS ?_ ?_ <;> intro _ | refine finG ?_)
    rfl
   ·rw [if_neg h2]
    have h3 : ¬ r.num.sign ≤ 0 := fun e => h2 (z.1 e)
    generalize r.num.sign = s at *
    refine qAb tab Tryz.func34 rfl rfl (lblz rfl) (fun w0 F0 => ?_)
    repeat' (first | refine wG ?_ | refine wC sg ?_ | refine wS ?_ ?_ <;> intro _ | refine finG ?_)
    rfl
theorem ends_ok {x : List Rat} {r : Rat} {n : Nat} (hx : ∀ v ∈ x, okQ n v) (hr : okQ n r) : ∀ y ∈ endsF x r, okQ (n + n) y := fun y hy => by
 obtain ⟨v, hv, e⟩ := endsF_inv hy
 rcases e with rfl | rfl
 ·exact (hx v hv).sub hr
 ·exact (hx v hv).add hr
theorem mroots_ascending (l : List Rat) (hl : l.length ≤ 12) (ho : ∀ x ∈ l, okQ 1000 x) : Ret Tryz.prog 83 [qsD l] (· = qsD (cmpL (srt l))) := by
 have hs := order_SortB (l.map rq) (by rw [List.length_map]; exact hl) (rqs_ok ho)
 rw [qAl, List.length_map, ← srt_len l] at hs
 have os := srt_ok ho
 have sl := srt_len l
 have cb := compact_B (srt l) (by omega) (fun x hx => (os x hx).mono (by decide))
 have key : Ret Tryz.prog 83 [rsD (l.map rq)] (· = qsD (cmpL (srt l))) := by
  have hc := cmpL_len (srt l)
  have ecut : cut 0 (cmpL (srt l)).length (cmpL (srt l) ++ List.replicate ((srt l).length - (cmpL (srt l)).length) 0) = cmpL (srt l) := by
   rw [cut_zero, List.take_left' rfl]
  generalize srt l = s at *
  generalize cmpL s = c at *
  clear os ho
  refine qAb tab Tryz.func83 rfl rfl (lblz rfl) (fun w0 F0 => ?_)
  repeat' (first | refine wG ?_ | refine wD [500] hs ?_ | refine wD [] cb ?_ | refine wS ?_ ?_ <;> intro _ | refine finG ?_)
  rw [ecut]
 exact key.args (leQRs l (LeT.refl _))
theorem take_ends {x : List Rat} {r : Rat} {i : Nat} (h : i < x.length) : endsF (x.take (i + 1)) r = endsF (x.take i) r ++ [x.getD i 0 - r, x.getD i 0 + r] := by
 rw [show x.take (i + 1) = x.take i ++ [x.getD i 0] by rw [List.take_add_one, List.getD_eq_getElem?_getD, List.getElem?_eq_getElem h]; rfl, endsF_snoc]
theorem mroots_breaks (x : List Rat) (r : Rat) (hl : x.length ≤ 6) (hx : ∀ v ∈ x, okQ 100 v) (or : okQ 100 r) : Ret Tryz.prog 35 [qsD x, qD r] (· = qsD (qAg x r)) := by
 have og : ∀ i, okQ 100 (x.getD i 0) := fun i => ok_cf hx (by decide) i
 have el := endsF_len r x
 have hasc := mroots_ascending (endsF x r) (by omega) (fun y hy => (ends_ok hx or y hy).mono (by decide))
 rw [show cmpL (srt (endsF x r)) = qAg x r from rfl] at hasc
 obtain ⟨E, hE⟩ : ∃ E : Nat -> List Rat, ∀ i, E i = endsF (x.take i) r := ⟨fun i => endsF (x.take i) r, fun _ => rfl⟩
 have e0 : E 0 = [] := by rw [hE]; rfl
 have eS : ∀ i, i < x.length -> E (i + 1) = E i ++ [x.getD i 0 - r, x.getD i 0 + r] := fun i hi => by rw [hE, hE]; exact take_ends hi
 have eL : ∀ i, (E i).length ≤ 128 := fun i => by rw [hE, endsF_len, List.length_take]; omega
 rw [show endsF x r = E x.length by rw [hE, List.take_of_length_le (Nat.le_refl _)]] at hasc
 generalize qAg x r = q at *
 clear hE hx el
 refine qAb tab Tryz.func35 rfl rfl (lblz rfl) (fun w0 F0 => ?_)
 repeat' (first | refine wG ?_ | refine rg 5 8 ?_ | refine wS ?_ ?_ <;> intro _ | refine finG ?_)
 refine awp_adopt 5 500 27 3 qC 0 rfl ?_
 refine qAi (fun (i : Nat) => ([(0, .d (qsD x)), (3, .ptr 3 0), (5, qO (E i).length), (8, .d (qsD x)), (9, .d (.int .i64 x.length)), (10, .d (.int .i64 i))], [(3, .box 27 ((rC (rq r)).map V.d)), (500, qB (E i))])) (fun i => i ≤ x.length) (fun i => x.length - i) 0 (by omega) ⟨rfl, rfl, ownEq (by rw [e0]; rfl), rfl, rfl, rfl, rfl⟩ ⟨rfl, blkEq (by rw [e0]), trivial⟩ (fun i hi => ?_)
 have hel := eL i
 by_cases h3 : i < x.length
 ·have s1 := rational_SubQ (x.getD i 0) r ((og i).mono (by decide)) (or.mono (by decide))
  have a1 := rational_AddQ (x.getD i 0) r ((og i).mono (by decide)) (or.mono (by decide))
  have st := eS i h3
  clear og eS eL
  repeat' (first | refine wG ?_ | refine wC s1 ?_ | refine wC a1 ?_ | refine rg 5 8 ?_ | refine wS ?_ ?_ <;> intro _ | refine finG ?_)
  exact ⟨i + 1, by omega, by omega, ⟨rfl, rfl, ownEq (by rw [st]), rfl, rfl, iv (by omega), rfl⟩, rfl, blkEq (by rw [st]), trivial⟩
 ·have e : i = x.length := by omega
  subst e
  clear og eS eL
  repeat' (first | refine wG ?_ | refine wC hasc ?_ | refine rg 5 8 ?_ | refine wS ?_ ?_ <;> intro _ | refine finG ?_)
  rfl
def xN (n : Nat) : List Rat := List.replicate n 0 ++ [1]
structure XOk (n : Nat) (E : List Rat) : Prop where
 e : derP (xN n) = E
 tx : qAd (xN n) = xN n
 ty : qAd (xN (n - 1)) = xN (n - 1)
 m : monicP E = xN (n - 1)
 mx : monicP (xN (n - 1)) = xN (n - 1)
 r : remP (xN n) E = []
 q : divP (xN n) (xN (n - 1)) = ([0, 1], [])
 s1 : smB (xN n) = true
 s2 : smB (xN (n - 1)) = true
 s3 : smB E = true
 l1 : (xN n).length = n + 1
 l2 : (xN (n - 1)).length = n
 l3 : E.length = n
 n0 : 1 ≤ n
 n1 : n ≤ 30
end Go.Proofs.YtejigedigmagdaaGreat
set_option linter.unusedSectionVars false
namespace Go.Vw
open Go.RowKit
section
variable {ex : Bool} {X : Ctx} {all : Array Oper} {Q : Exit -> St -> Prop} {s : St} {o : Oper} {pre rest : List Oper} {d : Tmp}
end
end Go.Vw
namespace Go.Proofs.YtejigedigmagdaaGreat
open Go.Vw
attribute [local irreducible] awp awpL awpR
theorem numQ2 (v : Int) : okQ 2 (numQ v) := by
 have lm : ∀ n, n < 4294967296 -> (qAc n).length < 2 := fun n h => by
  rcases Nat.eq_zero_or_pos n with e | e
  ·subst e; rw [qAh]; decide
  ·rw [limbs_small (by show n < 4294967296; omega) (by omega)]; simp
 exact okQ_divInt (by omega) (lm _ (by omega)) (lm _ (by omega))
theorem ht2 {p : List Rat} (hp : ∀ x ∈ p, okQ 2 x) {n : Nat} (hl : p.length ≤ n) : HtP (n * 2 + 2) (qAd p) := (HtP.of_ok (by decide) p hp).trim.mono (by omega)
inductive PosM : List (List Rat) -> List (List Rat) -> Prop
 | nil : PosM [] []
 | cons {c : Rat} {a : List Rat} {l l' : List (List Rat)} : 0 < c -> PosM l l' -> PosM (smul c a :: l) (a :: l')
theorem PosM.refl : ∀ l, PosM l l
 | [] => .nil
 | a :: l => by
  have := PosM.cons (c := 1) (a := a) (by decide) (PosM.refl l)
  rwa [smul_one] at this
theorem ln_sm {n : Nat} (h : n < 4294967296) : ln n < 2 := by
 unfold ln
 rcases Nat.eq_zero_or_pos n with e | e
 ·subst e; rw [qAh]; decide
 ·rw [limbs_small (by show n < 4294967296; omega) (by omega)]; simp
theorem ht_der {h : Nat} {p : List Rat} (H : HtP h p) (hl : p.length ≤ 1000) : HtP (h + 1) (derP p) := by
 refine HtP.trim ?_
 obtain ⟨c, P, c0, hc, hp⟩ := H
 refine ⟨c, fun i => if i < p.length then ((i + 1 : Nat) : Int) * P (i + 1) else 0, c0, by omega, fun i => ?_⟩
 dsimp only
 rw [cf_der]
 split
 ·refine ⟨?_, ?_⟩
  ·have := ln_mulZ (a := ((i + 1 : Nat) : Int)) (h := 2) (by rw [Int.natAbs_natCast]; exact ln_sm (by omega)) (hp (i + 1)).1
   omega
  ·rw [(hp (i + 1)).2, Rat.divInt_eq_div, Rat.divInt_eq_div, Rat.intCast_mul, Rat.div_def, Rat.div_def, Rat.mul_assoc, Rat.intCast_natCast]
 ·refine ⟨by show ln 0 < h + 1; rw [ln_zero]; omega, ?_⟩
  rw [cf_ge (by omega), Rat.mul_zero]
  exact (Rat.zero_divInt c).symm
theorem ht_small {h : Nat} {p : List Rat} (t : Tr p) (H : HtP h p) : HtP (h + 1) (smallP p) := chOk_small.ht p h t H
theorem ctrOk_of {p : List Rat} (tp : Tr p) (p0 : p ≠ []) {h B : Nat} (hp : HtP h p) (h1 : 1 < h) (lp : p.length ≤ 90) (hB : 6 ≤ B) (h3 : (h + 2) * 3 ^ p.length ≤ B) (hB2 : B ≤ Bud) (hb : ∀ l g, 1 ≤ g -> g ≤ p.length -> (1 < g -> l * 3 ^ g ≤ B) -> (g = 1 -> l = 3) -> h + (p.length + 1 - g) * l + l ≤ 2000000 ∧ (h + (p.length + 1 - g) * l + l + 3) * 3 ^ (p.length + 1 - g) ≤ Bud) : CtrOk p ∧ ∃ M, JS (smallP (ctrQ p)) (smallP (derP (ctrQ p))) M := by
 have td := qAk (derC p)
 have hd := ht_der hp (by omega)
 have ld : (derP p).length < p.length := by
  have := derP_lt (p := p) (by rw [trim_of tp]; exact p0)
  rwa [trim_of tp] at this
 have e1 : max p.length ((derP p).length + 1) = p.length := by omega
 have hj : JG p (derP p) := JG.of tp td (hp.mono (Nat.le_succ h)) hd (by rw [e1]; exact Nat.le_trans h3 hB2)
 obtain ⟨g1, g2⟩ := gcdP_tr tp td
 obtain ⟨g3, g4⟩ := g2 (.inl p0)
 rw [show qAd (derC p) = derP p from rfl] at g1 g3 g4
 obtain ⟨M, k1, k2⟩ := gcdB hB _ tp td (hp.mono (Nat.le_succ h)) hd (by rw [show qAd (derC p) = derP p from rfl, if_pos ld]; exact h3) (Nat.le_refl _)
 rw [show qAd (derC p) = derP p from rfl] at k1 k2
 have gl := ne_len g3
 have glp : (gcdP p (derP p)).length ≤ p.length := by
  have := gcd_len _ tp td (Nat.le_refl _)
  rw [show qAd (derC p) = derP p from rfl] at this
  omega
 have key : ∃ l, HtP l (gcdP p (derP p)) ∧ h + (p.length + 1 - (gcdP p (derP p)).length) * l + l ≤ 2000000 ∧ (h + (p.length + 1 - (gcdP p (derP p)).length) * l + l + 3) * 3 ^ (p.length + 1 - (gcdP p (derP p)).length) ≤ Bud := by
  by_cases c : (gcdP p (derP p)).length = 1
  ·obtain ⟨a1, a2⟩ := hb 3 (gcdP p (derP p)).length gl glp (by omega) (fun _ => rfl)
   exact ⟨3, ht_one c g4, a1, a2⟩
  ·obtain ⟨a1, a2⟩ := hb (M + 1) (gcdP p (derP p)).length gl glp (fun _ => k2) (fun h => absurd h c)
   exact ⟨M + 1, k1, a1, a2⟩
 obtain ⟨l, l1, l2, l3⟩ := key
 have hQ : HtP (h + (p.length + 1 - (gcdP p (derP p)).length) * l + l) (ctrQ p) := divP_ht tp g1 g3 hp l1
 have lQ : (ctrQ p).length ≤ p.length + 1 - (gcdP p (derP p)).length := (divP_q tp g1 g3 hp l1 h1).2
 have tQ : Tr (ctrQ p) := (divP_spec tp g1 g3).1
 obtain ⟨H, hH⟩ : ∃ H, h + (p.length + 1 - (gcdP p (derP p)).length) * l + l = H := ⟨_, rfl⟩
 rw [hH] at hQ l3
 have tE := qAk (derC (ctrQ p))
 have hE := ht_der hQ (by omega)
 have lt : ctrQ p ≠ [] -> (derP (ctrQ p)).length < (ctrQ p).length := fun q0 => by
  have := derP_lt (p := ctrQ p) (by rw [trim_of tQ]; exact q0)
  rwa [trim_of tQ] at this
 have pw : 3 ^ (ctrQ p).length ≤ 3 ^ (p.length + 1 - (gcdP p (derP p)).length) := Nat.pow_le_pow_right (by decide) lQ
 have b3 : (H + 3) * 3 ^ (ctrQ p).length ≤ Bud := Nat.le_trans (Nat.mul_le_mul_left _ pw) l3
 refine ⟨⟨g3, g1, hj, by omega, ⟨h, l, hp, l1, l2⟩, by omega, H + 1, tQ, tE, lt, hQ.mono (by omega), hE, ?_⟩, H + 2, chOk_small.tr _ tQ, chOk_small.tr _ tE, fun h0 => ?_, (ht_small tQ hQ).mono (by omega), ht_small tE hE, ?_⟩
 ·exact Nat.le_trans (Nat.mul_le_mul_right _ (by omega)) b3
 ·rw [chOk_small.len, chOk_small.len]
  exact lt fun e => h0 (by rw [e]; rfl)
 ·rw [chOk_small.len]; exact b3
theorem chS_small : ChS smallP := ⟨chOk_small.tr, chOk_small.len, fun p tp => by
 by_cases h0 : p = []
 ·subst h0
  exact ⟨1, by decide, fun x => by rw [Rat.one_mul]; rfl⟩
 ·have hl := lead_ne tp h0
  have hp : 0 < absQ (lead p) := by
   unfold absQ
   split
   ·grind
   ·grind
  refine ⟨absQ (lead p), hp, fun x => ?_⟩
  unfold smallP
  rw [qAx, ← Rat.mul_assoc, Rat.mul_comm (absQ (lead p)), qAp (Rat.ne_of_gt hp), Rat.one_mul]⟩
theorem vrsF_eq (F : List (List Rat)) (x : Rat) : vrsF F x = vrs (F.map qAa) x := by
 unfold vrsF vrs sgs
 rw [List.map_map]
 rfl
theorem ctrOk_mk {p : List Rat} (tp : Tr p) (p0 : p ≠ []) {h l H : Nat} (hp : HtP h p) (h1 : 1 < h) (lp : p.length ≤ 90) (h3 : (h + 2) * 3 ^ p.length ≤ Bud) (hg : HtP l (gcdP p (derP p))) (hQ : HtP H (ctrQ p)) (hb : h + (p.length + 1 - (gcdP p (derP p)).length) * l + l ≤ 2000000) (hb2 : (H + 3) * 3 ^ (ctrQ p).length ≤ Bud) : CtrOk p ∧ ∃ M, JS (smallP (ctrQ p)) (smallP (derP (ctrQ p))) M := by
 have td := qAk (derC p)
 have hd := ht_der hp (by omega)
 have ld : (derP p).length < p.length := by
  have := derP_lt (p := p) (by rw [trim_of tp]; exact p0)
  rwa [trim_of tp] at this
 have e1 : max p.length ((derP p).length + 1) = p.length := by omega
 have hj : JG p (derP p) := JG.of tp td (hp.mono (Nat.le_succ h)) hd (by rw [e1]; exact h3)
 obtain ⟨g1, g2⟩ := gcdP_tr tp td
 obtain ⟨g3, g4⟩ := g2 (.inl p0)
 rw [show qAd (derC p) = derP p from rfl] at g1 g3 g4
 have glp : (gcdP p (derP p)).length ≤ p.length := by
  have := gcd_len _ tp td (Nat.le_refl _)
  rw [show qAd (derC p) = derP p from rfl] at this
  omega
 have lQ : (ctrQ p).length ≤ p.length + 1 - (gcdP p (derP p)).length := (divP_q tp g1 g3 hp hg h1).2
 have tQ : Tr (ctrQ p) := (divP_spec tp g1 g3).1
 have tE := qAk (derC (ctrQ p))
 have hE := ht_der hQ (by omega)
 have lt : ctrQ p ≠ [] -> (derP (ctrQ p)).length < (ctrQ p).length := fun q0 => by
  have := derP_lt (p := ctrQ p) (by rw [trim_of tQ]; exact q0)
  rwa [trim_of tQ] at this
 refine ⟨⟨g3, g1, hj, by omega, ⟨h, l, hp, hg, hb⟩, by omega, H + 1, tQ, tE, lt, hQ.mono (by omega), hE, ?_⟩, H + 2, chOk_small.tr _ tQ, chOk_small.tr _ tE, fun h0 => ?_, (ht_small tQ hQ).mono (by omega), ht_small tE hE, ?_⟩
 ·exact Nat.le_trans (Nat.mul_le_mul_right _ (by omega)) hb2
 ·rw [chOk_small.len, chOk_small.len]
  exact lt fun e => h0 (by rw [e]; rfl)
 ·rw [chOk_small.len]; exact hb2
structure PolOk (p : List Rat) : Prop where
 len : p.length ≤ 8
 ok : ∀ x ∈ p, okQ 100 x
 ctr : qAd p ≠ [] -> CtrOk (qAd p) ∧ ∃ M, JS (smallP (ctrQ (qAd p))) (smallP (derP (ctrQ (qAd p)))) M
theorem PolOk.trim {p : List Rat} (h : PolOk p) : PolOk (qAd p) := ⟨Nat.le_trans (trim_len p) h.len, fun x hx => h.ok x (trim_mem hx), by rw [trim_trim]; exact h.ctr⟩
def cntV (p : List Rat) (X : I2) : Int := if qAd p = [] then -1 else cntF (ctr (qAd p)) X.1 X.2
def holdsB (p : List Rat) (X : I2) : Bool := decide (X.1 ≤ X.2) && (if X.1 = X.2 then decide (qAa p X.1 = 0) else decide (cntV p X = 1))
theorem evalV_ok {p : List Rat} (hp : PolOk p) (x : Rat) (ox : okQ 150000 x) : okQ 2000000 (qAa p x) := by
 have h := horn_ok hp.ok ox (by decide) p.length (Nat.le_refl _)
 rw [horn_all] at h
 refine h.mono ?_
 have := hp.len
 have := Nat.mul_le_mul_right (100 + 150000) (show p.length ≤ 8 by omega)
 omega
theorem polynomial_EvalV {p : List Rat} (hp : PolOk p) (x : Rat) (ox : okQ 150000 x) : Ret Tryz.prog 60 [qsD p, qD x] (· = qD (qAa p x)) := by
 have hl := hp.len
 have hk : ∀ k, k ≤ p.length -> okQ 2000000 (hornK p x k) := fun k hk => by
  refine (horn_ok hp.ok ox (by decide) k hk).mono ?_
  have := Nat.mul_le_mul_right (100 + 150000) (show k ≤ 8 by omega)
  omega
 have h := polynomial_Eval (p.map rq) (rq x) (by rw [List.length_map]; omega) (rqs_ok fun x hx => (hp.ok x hx).mono (by decide)) (ok_rq (ox.mono (by decide))) (by rw [qAl, List.length_map, rv_rq]; exact fun k hk2 => (hk k hk2).mono (by decide))
 rw [qAl, rv_rq] at h
 exact h.args (leQRs p (LeT.refl _))
theorem polynomial_DegreeQ (p : List Rat) (hp : p.length ≤ 400) (kp : ∀ x ∈ p, okQ 1000000 x) : Ret Tryz.prog 152 [qsD p] (· = .int .i64 (((qAd p).length : Int) - 1)) := by
 have h := polynomial_Degree (p.map rq) (by rw [List.length_map]; omega) (rqs_ok fun x hx => (kp x hx).mono (by decide))
 rw [qAl] at h
 exact h.args (leQRs p (LeT.refl _))
theorem newCounterV {p : List Rat} (hp : PolOk p) (p0 : qAd p ≠ []) : Ret Tryz.prog 153 [qsD p] (· = qssD (ctr (qAd p))) := by
 have h := polynomial_newCounter (p.map rq) (by rw [List.length_map]; have := hp.len; omega) (rqs_ok fun x hx => (hp.ok x hx).mono (by decide)) (by rw [qAl]; exact (hp.ctr p0).1)
 rw [qAl] at h
 exact h.args (leQRs p (LeT.refl _))
theorem countV {p : List Rat} (hp : PolOk p) (p0 : qAd p ≠ []) (x y : Rat) (ox : okQ 150000 x) (oy : okQ 150000 y) : Ret Tryz.prog 188 [qssD (ctr (qAd p)), qD x, qD y] (· = .int .i64 (cntF (ctr (qAd p)) x y)) := by
 obtain ⟨hk, _⟩ := hp.ctr p0
 obtain ⟨M, f⟩ := hk.fit2
 have hfit := f.chain chOk_small ((ctrQ (qAd p)).length + 1)
 have cln := chain_len smallP ((ctrQ (qAd p)).length + 1) (ctrQ (qAd p)) (derP (ctrQ (qAd p)))
 have ql := hk.ql
 have h := counter_count (ctr (qAd p)) (rq x) (rq y) (by unfold ctr; omega) (fun g hg => by
  obtain ⟨g1, M', g2⟩ := hfit g hg
  refine ⟨?_, M', g2⟩
  have b := g2.2
  by_cases g0 : g.length ≤ 13
  ·exact g0
  ·exfalso
   have b3 := Nat.pow_le_pow_right (show 0 < 3 by decide) (show 14 ≤ g.length by omega)
   have b4 := Nat.mul_le_mul_right (3 ^ g.length) (show 1 ≤ M' + 1 by omega)
   have b5 : (3 : Nat) ^ 14 = 4782969 := by decide
   unfold Bud at b
   omega) (ok_rq (ox.mono (by decide))) (ok_rq (oy.mono (by decide)))
 rwa [rv_rq, rv_rq] at h
theorem interval_HullS (X : I2) (oX : okI 150000 X) (h : X.1 ≤ X.2) : Ret Tryz.prog 40 [iQ X, iQ X] (· = iQ X) := by
 have k := interval_Hull (rq X.1) (rq X.2) (rq X.1) (rq X.2) (ok_rq (oX.1.mono (by decide))) (ok_rq (oX.2.mono (by decide))) (ok_rq (oX.1.mono (by decide))) (ok_rq (oX.2.mono (by decide)))
 rwa [rv_rq, rv_rq, hullI_same h] at k
theorem rational_AddZ (x : Rat) (hx : okQ 10000000 x) : Ret Tryz.prog 44 [qD x, rD r0] (· = qD x) := by
 have a := rational_Add (rq x) r0 (ok_rq hx) ok_r0K
 rw [rv_rq, rv_r0, Rat.add_zero] at a
 exact a
theorem hubV_ok {x : List Rat} {k : Rat} (hl : x.length ≤ 6) (hx : ∀ v ∈ x, okQ 100 v) (ok : okQ 100 k) (j : Nat) : okQ 30000 (hubV x k j) := by
 unfold hubV
 have ot : okQ 200 ((qAg x k).getD j 0) := ok_cf (fun y hy => (ends_ok hx ok y (endsQ_mem.1 hy)).mono (by decide)) (by decide) j
 refine (hub_ok (ok.mono (by decide)) ot (by decide) (x := x) fun v hv => (hx v hv).mono (by decide)).mono ?_
 have := Nat.mul_le_mul_right (2 * 200) hl
 omega
def HubAt (x : List Rat) (k lo hi : Rat) : Prop := (∃ f l, HubZ x k f l ∧ lo = (qAg x k).getD f 0 ∧ hi = (qAg x k).getD l 0) ∨ ∃ i, HubN x k i ∧ lo = (qAg x k).getD (i - 1) 0 + hubV x k (i - 1) / (hubV x k (i - 1) - hubV x k i) * ((qAg x k).getD i 0 - (qAg x k).getD (i - 1) 0) ∧ hi = lo
theorem HubAt.ex {x : List Rat} {k : Rat} (hk : 0 < k) (x0 : x ≠ []) : ∃ lo hi, HubAt x k lo hi := by
 rcases hub_cases hk x0 with ⟨f, l, h⟩ | ⟨i, h⟩
 ·exact ⟨_, _, .inl ⟨f, l, h, rfl, rfl⟩⟩
 ·exact ⟨_, _, .inr ⟨i, h, rfl, rfl⟩⟩
theorem HubAt.spec {x : List Rat} {k lo hi : Rat} (hk : 0 < k) (h : HubAt x k lo hi) : HubSpec x k lo hi := by
 rcases h with ⟨f, l, h, rfl, rfl⟩ | ⟨i, h, rfl, rfl⟩
 ·exact h.spec hk
 ·refine h.spec hk ?_
  have a := h.pos (i - 1) (by have := h.i0; omega)
  have b := h.neg i (Nat.le_refl _) h.ln
  generalize hubV x k (i - 1) = u at *
  generalize hubV x k i = v at *
  generalize (qAg x k).getD (i - 1) 0 = p at *
  generalize (qAg x k).getD i 0 = q at *
  have e : u / (u - v) * (u - v) = u := Rat.div_mul_cancel (by grind)
  generalize u / (u - v) = w at *
  grind
theorem HubAt.ok {x : List Rat} {k lo hi : Rat} (hl : x.length ≤ 6) (hx : ∀ v ∈ x, okQ 100 v) (ok : okQ 100 k) (h : HubAt x k lo hi) : okI 100000 (lo, hi) := by
 have oq : ∀ j, okQ 200 ((qAg x k).getD j 0) := fun j => ok_cf (fun y hy => (ends_ok hx ok y (endsQ_mem.1 hy)).mono (by decide)) (by decide) j
 have oV := hubV_ok hl hx ok
 rcases h with ⟨f, l, h, rfl, rfl⟩ | ⟨i, h, rfl, rfl⟩
 ·exact ⟨(oq f).mono (by decide), (oq l).mono (by decide)⟩
 ·have a := h.pos (i - 1) (by have := h.i0; omega)
  have b := h.neg i (Nat.le_refl _) h.ln
  have o := ((oq (i - 1)).add (((oV (i - 1)).div ((oV (i - 1)).sub (oV i)) (by grind)).mul ((oq i).sub (oq (i - 1))))).mono (show _ ≤ 100000 by decide)
  exact ⟨o, o⟩
theorem mroots_HuberOk (x : List Rat) (k : Rat) (hl : x.length ≤ 6) (hx : ∀ v ∈ x, okQ 100 v) (ok : okQ 100 k) (hk : 0 < k) (he : chkErr x k = 0) {lo hi : Rat} (at_ : HubAt x k lo hi) : Ret Tryz.prog 12 [qsD x, qD k] (· = .tup [iQ (lo, hi), .int .i64 0]) := by
 have ck := mroots_check x k (ok.mono (by decide))
 rw [he] at ck
 have br := mroots_breaks x k hl hx ok
 have ql := endsQ_len x k
 have oq : ∀ j, okQ 200 ((qAg x k).getD j 0) := fun j => ok_cf (fun y hy => (ends_ok hx ok y (endsQ_mem.1 hy)).mono (by decide)) (by decide) j
 have oV := hubV_ok hl hx ok
 have hu : ∀ j, Ret Tryz.prog 36 [qsD x, qD k, qD ((qAg x k).getD j 0)] (· = qD (hubV x k j)) := fun j => mroots_huber x k _ (by omega) (fun v hv => (hx v hv).mono (by decide)) (ok.mono (by decide)) ((oq j).mono (by decide)) hk
 have oI := HubAt.ok hl hx ok at_
 have hsp := (at_.spec hk).le
 obtain ⟨vf, hV⟩ : ∃ vf : Nat -> Rat, ∀ j, vf j = hubV x k j := ⟨hubV x k, fun _ => rfl⟩
 obtain ⟨q, hq⟩ : ∃ q, qAg x k = q := ⟨_, rfl⟩
 have vals : ∀ j, j < q.length -> ((List.range q.length).map vf).getD j 0 = vf j := fun j hj => by
  rw [List.getD_eq_getElem?_getD, List.getElem?_map, List.getElem?_range hj]; rfl
 have oV2 : ∀ j, okQ 30000 (vf j) := fun j => by rw [hV]; exact oV j
 have cs : (∃ f l, f ≤ l ∧ l + 1 < q.length ∧ (∀ j, j < f -> 0 < vf j) ∧ (∀ j, f ≤ j -> j ≤ l -> vf j = 0) ∧ (∀ j, l < j -> j < q.length -> vf j < 0) ∧ lo = q.getD f 0 ∧ hi = q.getD l 0) ∨ ∃ i, 0 < i ∧ i < q.length ∧ (∀ j, j < i -> 0 < vf j) ∧ (∀ j, i ≤ j -> j < q.length -> vf j < 0) ∧ lo = q.getD (i - 1) 0 + vf (i - 1) / (vf (i - 1) - vf i) * (q.getD i 0 - q.getD (i - 1) 0) ∧ hi = lo := by
  rw [← hq, show vf = hubV x k from funext hV]
  rcases at_ with ⟨f, l, h, e1, e2⟩ | ⟨i, h, e1, e2⟩
  ·exact .inl ⟨f, l, h.fl, h.ln, h.pos, h.zero, h.neg, e1, e2⟩
  ·exact .inr ⟨i, h.i0, h.ln, h.pos, h.neg, e1, e2⟩
 rw [hq] at br ql oq hu
 clear at_ hx
 refine qAb tab Tryz.func12 rfl rfl (lblz rfl) (fun w0 F0 => ?_)
 repeat' (first | refine wG ?_ | refine stepMake (mm := true) (en := rC) (z := r0) tt rfl rfl rfl rfl rfl rfl rfl rfl rfl rfl rfl rfl leL sc sc ?_ | refine stepMake (mm := false) (en := rC) (z := r0) tt rfl rfl rfl rfl rfl rfl rfl rfl rfl rfl rfl rfl leL sc sc ?_ | refine wC ck ?_ | refine wC br ?_ | refine rg 17 18 ?_ | refine rgK 19 21 [15] ?_ | refine rgK 20 19 [17] ?_ | refine rg 21 4 ?_ | refine wS ?_ ?_ <;> intro _ | refine finG ?_)
 refine awp_conv (Conv.box 4 (cs := [.bool false, .nils, .nils, .bool false, .nils, .nils]) (iC r0 r0) rfl leL) ?_
 refine qAi (fun (j : Nat) => ([(0, .d (qsD x)), (3, .ptr 3 0), (4, .ptr 4 0), (5, .d (.int .i64 0)), (7, .d (qsD q)), (8, .own 30 0 q.length 27 3), (31, .d (qsD q)), (32, .d (.int .i64 q.length)), (33, .d (.int .i64 j))], [(3, .box 27 ((rC (rq k)).map V.d)), (4, .box 32 ((iC r0 r0).map V.d)), (30, .data 27 3 rC r0 (rqL q.length (fun a => if a < j then vf a else 0)))])) (fun j => j ≤ q.length) (fun j => q.length - j) 0 (by omega) ⟨rfl, rfl, rfl, rfl, rfl, ownEq (by omega), rfl, rfl, rfl, rfl⟩ ⟨rfl, rfl, blkEq (by rw [← rqL_zero q.length (v := fun a => if a < 0 then vf a else 0) (fun j => if_neg (by omega))]), trivial⟩ (fun j hj => ?_)
 have hrl := rqL_len q.length (fun a => if a < j then vf a else 0)
 by_cases h3 : j < q.length
 ·have cu := hu j
  rw [← hV j] at cu
  have es := rqL_set (m := q.length) (v := fun a => if a < j then vf a else 0) (v' := fun a => if a < j + 1 then vf a else 0) (k := j) (x := vf j) (by rw [if_pos (by omega)]) (fun b hb => by
   by_cases hbj : b < j
   ·rw [if_pos hbj, if_pos (by omega)]
   ·rw [if_neg hbj, if_neg (by omega)])
  clear hu oV vals oq cs oV2 hsp
  repeat' (first | refine wG ?_ | refine wC cu ?_ | refine rg 17 18 ?_ | refine rgK 19 21 [15] ?_ | refine rgK 20 19 [17] ?_ | refine rg 21 4 ?_ | refine wS ?_ ?_ <;> intro _ | refine finG ?_)
  exact ⟨j + 1, by omega, by omega, ⟨rfl, rfl, rfl, rfl, rfl, rfl, rfl, rfl, iv (by omega), rfl⟩, rfl, rfl, blkEq es, trivial⟩
 ·have e : j = q.length := by omega
  subst e
  obtain ⟨W, hW⟩ : ∃ W, (List.range q.length).map vf = W := ⟨_, rfl⟩
  have hWl : W.length = q.length := by rw [← hW, List.length_map, List.length_range]
  have eW : rqL q.length (fun a => if a < q.length then vf a else 0) = W.map rq := by
   rw [rqL_qs, ← hW]
   congr 1
   exact List.map_congr_left fun a ha => if_pos (List.mem_range.1 ha)
  rw [hW] at vals
  refine awp_frz 30 rfl ?_
  refine awp_cast 8 (qsD W) rfl (by
   have e1 : cut 0 q.length (rqL q.length fun a => if a < q.length then vf a else 0) = W.map rq := by rw [cut_zero, List.take_of_length_le (by rw [rqL_len]; omega), eW]
   show LeD (.sl 3 rC r0 (cut 0 q.length (rqL q.length fun a => if a < q.length then vf a else 0))) (qsD W)
   rw [e1]
   exact leRQ W) ?_
  have oW : ∀ i, i < q.length -> okQ 1000000 (W.getD i 0) := fun i hi => by rw [vals i hi]; exact (oV2 i).mono (by decide)
  clear hu oV eW
  rcases cs with ⟨f, l, hfl, hln, hp, hz, hn, rfl, rfl⟩ | ⟨i, i0, hln, hp, hn, elo, rfl⟩
  ·have ix := index_some 37 W (fun v => v = 0) f (by omega) (by omega) (fun i hi => Huber_zero _ (oW i (by omega))) (by rw [vals f (by omega)]; exact hz f (Nat.le_refl _) hfl) (fun i hi => by rw [vals i (by omega)]; have := hp i hi; grind)
   have hH := interval_HullS (q.getD f 0, q.getD l 0) ⟨oI.1.mono (by decide), oI.2.mono (by decide)⟩ hsp
   have hzW : ∀ j, f ≤ j -> j ≤ l -> W.getD j 0 = 0 := fun j a b => by rw [vals j (by omega)]; exact hz j a b
   have hnW : W.getD (l + 1) 0 ≠ 0 := by rw [vals (l + 1) hln]; have := hn (l + 1) (by omega) hln; grind
   clear oV2 hp hz hn vals
   repeat' (first | refine wG ?_ | refine wC ix ?_ | refine rg 17 18 ?_ | refine rgK 19 21 [15] ?_ | refine rgK 20 19 [17] ?_ | refine rg 21 4 ?_ | refine wS ?_ ?_ <;> intro _ | refine finG ?_)
   refine qAi (fun (j : Nat) => ([(0, .d (qsD x)), (3, .ptr 3 0), (4, .ptr 4 0), (5, .d (.int .i64 0)), (7, .d (qsD q)), (8, .d (qsD W)), (11, .d (.fn 37 [])), (12, .d (.int .i64 f)), (13, .d (.int .i64 j))], [(3, .box 27 ((rC (rq k)).map V.d)), (4, .box 32 ((iC r0 r0).map V.d))])) (fun j => f ≤ j ∧ j ≤ l) (fun j => l - j) f ⟨Nat.le_refl _, hfl⟩ ⟨rfl, rfl, rfl, rfl, rfl, rfl, rfl, rfl, rfl, rfl⟩ ⟨rfl, rfl, trivial⟩ (fun j hj => ?_)
   have zz := Huber_zero (W.getD (j + 1) 0) (oW (j + 1) (by omega))
   by_cases h4 : j < l
   ·rw [decide_eq_true (hzW (j + 1) (by omega) (by omega))] at zz
    clear hzW hnW oW oq
    repeat' (first | refine wG ?_ | refine wC zz ?_ | refine rg 17 18 ?_ | refine rgK 19 21 [15] ?_ | refine rgK 20 19 [17] ?_ | refine rg 21 4 ?_ | refine wS ?_ ?_ <;> intro _ | refine finG ?_)
    exact ⟨j + 1, by omega, by omega, ⟨rfl, rfl, rfl, rfl, rfl, rfl, rfl, rfl, iv (by omega), rfl⟩, rfl, rfl, trivial⟩
   ·have e : j = l := by omega
    subst e
    rw [decide_eq_false hnW] at zz
    clear hzW hnW oW oq
    repeat' (first | refine wG ?_ | refine wC zz ?_ | refine wC hH ?_ | refine rg 17 18 ?_ | refine rgK 19 21 [15] ?_ | refine rgK 20 19 [17] ?_ | refine rg 21 4 ?_ | refine wS ?_ ?_ <;> intro _ | refine finTG ?_)
    exact leT
  ·have ix := index_none 37 W (fun v => v = 0) (by omega) (fun i hi => Huber_zero _ (oW i (by omega))) (fun j hj => by
    rw [vals j (by omega)]
    by_cases h4 : j < i
    ·have := hp j h4; grind
    ·have := hn j (by omega) (by omega); grind)
   have iy := index_some 41 W (fun v => v < 0) i (by omega) (by omega) (fun i hi => Huber_neg _ (oW i (by omega))) (by rw [vals i (by omega)]; exact hn i (Nat.le_refl _) hln) (fun j hj => by rw [vals j (by omega)]; have := hp j hj; grind)
   have p1 := hp (i - 1) (by omega)
   have n1 := hn i (Nat.le_refl _) hln
   have e0 : ((i : Int) - 1).toNat = i - 1 := by omega
   rw [← vals (i - 1) (by omega), ← vals i hln, ← e0] at elo
   rw [← vals (i - 1) (by omega), ← e0] at p1
   rw [← vals i hln] at n1
   have ou := (oW (i - 1) (by omega)).mono (show 1000000 ≤ 1000000 by decide)
   rw [← e0] at ou
   have ov := oW i hln
   have oq1 := oq ((i : Int) - 1).toNat
   have oq2 := oq i
   generalize hu : W.getD ((i : Int) - 1).toNat 0 = u at *
   generalize hv : W.getD i 0 = v at *
   generalize ha : q.getD ((i : Int) - 1).toNat 0 = a at *
   generalize hb : q.getD i 0 = b at *
   have d0 : u - v ≠ 0 := by grind
   have s1 := rational_SubQ u v (ou.mono (by decide)) (ov.mono (by decide))
   have os := ou.sub ov
   have d1 := rational_DivQ u (u - v) (ou.mono (by decide)) (os.mono (by decide))
   rw [if_neg d0] at d1
   have od := ou.div os d0
   have s2 := rational_SubQ b a (oq2.mono (by decide)) (oq1.mono (by decide))
   have o2 := oq2.sub oq1
   have m1 := rational_MulQ _ _ (od.mono (by decide)) (o2.mono (by decide))
   have a1 := rational_AddQ _ _ (oq1.mono (by decide)) ((od.mul o2).mono (by decide))
   rw [← elo] at a1
   have a2 := rational_AddZ hi (oI.1.mono (show 100000 ≤ 10000000 by decide))
   rw [← hu, ← hv] at s1 d1 m1 a1
   rw [← ha, ← hb] at s2 m1 a1
   have hi1 : 1 ≤ i := i0
   clear oV2 hp hn vals oW oq elo
   repeat' (first | refine wG ?_ | refine wC ix ?_ | refine wC iy ?_ | refine wC s1 ?_ | refine wC d1 ?_ | refine wC s2 ?_ | refine wC m1 ?_ | refine wC a1 ?_ | refine wC a2 ?_ | refine rg 17 18 ?_ | refine rgK 19 21 [15] ?_ | refine rgK 20 19 [17] ?_ | refine rg 21 4 ?_ | refine wS ?_ ?_ <;> intro _ | refine finTG ?_)
   exact leT
theorem interval_WidthI (X : I2) (oX : okI 150000 X) (h : X.1 ≤ X.2) : Ret Tryz.prog 110 [iQ X] (· = qD (X.2 - X.1)) := by
 have k := interval_Width (rq X.1) (rq X.2) (ok_rq (oX.1.mono (by decide))) (ok_rq (oX.2.mono (by decide)))
 rwa [rv_rq, rv_rq, takeI_of h] at k
theorem interval_MidI (X : I2) (oX : okI 150000 X) (h : X.1 ≤ X.2) : Ret Tryz.prog 55 [iQ X] (· = qD (mid2 X)) := by
 have k := interval_Mid (rq X.1) (rq X.2) (ok_rq (oX.1.mono (by decide))) (ok_rq (oX.2.mono (by decide)))
 rwa [rv_rq, rv_rq, takeI_of h] at k
abbrev cfn (p : List Rat) : Rat -> Rat -> Int := fun a b => cntF (ctr (qAd p)) a b
end Go.Proofs.YtejigedigmagdaaGreat
namespace Go.Vw
theorem ht_gt {h : Nat} {p : List Rat} (H : HtP h p) : 1 < h := by
 obtain ⟨c, P, c0, hc, hp⟩ := H
 have h0 : ln c.natAbs ≠ 0 := fun e => by
  unfold ln at e
  have h1 := lt_pow_length c.natAbs
  rw [e, Nat.pow_zero] at h1
  omega
 omega
def farT : Nat -> Nat
 | 0 => 4
 | 1 => 4
 | 2 => 13
 | n => n + 13
theorem farT_le {m n : Nat} (h : m ≤ n) : farT m ≤ farT n := by
 match m, n with
 | 0, 0 => decide
 | 0, 1 => decide
 | 0, 2 => decide
 | 0, n + 3 => show 4 ≤ n + 3 + 13; omega
 | 1, 1 => decide
 | 1, 2 => decide
 | 1, n + 3 => show 4 ≤ n + 3 + 13; omega
 | 2, 2 => decide
 | 2, n + 3 => show 13 ≤ n + 3 + 13; omega
 | m + 3, n + 3 => show m + 3 + 13 ≤ n + 3 + 13; omega
 | m + 1, 0 => omega
 | m + 2, 1 => omega
 | m + 3, 2 => omega
theorem farT_step {n : Nat} (h : 1 ≤ n) : farT n * 3 ^ (n + 1) + 81 ≤ farT (n + 1) * 3 ^ (n + 1) := by
 match n with
 | 1 => decide
 | 2 => decide
 | n + 3 =>
  show (n + 3 + 13) * 3 ^ (n + 3 + 1) + 81 ≤ (n + 4 + 13) * 3 ^ (n + 3 + 1)
  have : 81 ≤ 3 ^ (n + 3 + 1) := by
   have := Nat.pow_le_pow_right (show 0 < 3 by decide) (show 4 ≤ n + 3 + 1 by omega)
   simpa using this
  have e : (n + 4 + 13) * 3 ^ (n + 3 + 1) = (n + 3 + 13) * 3 ^ (n + 3 + 1) + 3 ^ (n + 3 + 1) := by
   rw [show n + 4 + 13 = (n + 3 + 13) + 1 by omega, Nat.add_mul, Nat.one_mul]
  omega
structure ChX (ch : List Rat -> List Rat) : Prop where
 ok : ChOk ch
 ev : ∀ p, Tr p -> p ≠ [] -> ∀ x, qAa p x = ab (lead p) * qAa (ch p) x
theorem far_js {ch : List Rat -> List Rat} (hs : ChS ch) (hc : ChX ch) {G : Nat} : ∀ (n : Nat) {a b : List Rat} {M : Nat}, Tr a -> Tr b -> a ≠ [] -> b ≠ [] -> b.length < a.length -> HtP M a -> HtP M b -> (M + 1) * 3 ^ a.length ≤ G -> Bez a b -> b.length ≤ n -> FarB (farT b.length * G) a b
 | 0, a, b, M, ta, tb, a0, b0, hl, ha, hb, bud, hz, hn => absurd (List.length_eq_zero_iff.1 (Nat.le_zero.1 hn)) b0
 | n + 1, a, b, M, ta, tb, a0, b0, hl, ha, hb, bud, hz, hn => by
  obtain ⟨hz2, _, _, _⟩ := bez_next hs ta tb b0 hz
  have lb := ne_len b0
  obtain ⟨e, he⟩ : ∃ e, a.length = b.length + e := ⟨a.length - b.length, by omega⟩
  have e1 : 1 ≤ e := by omega
  have p3 := pow3_ge e e1
  have pw : 3 ^ a.length = 3 ^ b.length * 3 ^ e := by rw [he, Nat.pow_add]
  have hr := remP_ht ta tb b0 ha hb
  have hq := divP_ht ta tb b0 ha hb
  have lq : (divP a b).1.length ≤ a.length + 1 - b.length := (divP_q ta tb b0 ha hb (ht_gt ha)).2
  have tr := tr_rem ta tb b0
  have lr := rem_len ta tb b0
  have M1 := ht_gt ha
  rw [show a.length + 1 - b.length = e + 1 by omega] at hr hq lq
  by_cases r0 : remP a b = []
  ·have c0 : ch (negC (remP a b)) = [] := List.length_eq_zero_iff.1 (by rw [hc.ok.len, r0]; rfl)
   rw [c0] at hz2
   obtain ⟨v, v0, rfl⟩ := bez_const tb hz2
   intro x hx
   right
   have ov : okQ M v := hb.ok 0
   have h1 := ok_low ov v0
   rw [show qAa [v] x = v by simp only [qAa]; grind]
   refine Rat.le_trans (hw_mono ?_) h1
   show 32 * M ≤ 4 * G
   have h9 : 3 ^ 2 ≤ 3 ^ a.length := Nat.pow_le_pow_right (by decide) (by omega)
   have := Nat.mul_le_mul_left (M + 1) h9
   omega
  ·have tn := tr_neg tr
   have n0 : negC (remP a b) ≠ [] := fun e => r0 (by unfold negC at e; exact smul_eq_nil.1 e)
   have nl : (negC (remP a b)).length = (remP a b).length := len_smul _ _
   have kl := hc.ev _ tn n0
   have cl : (ch (negC (remP a b))).length = (remP a b).length := by rw [hc.ok.len, nl]
   have c0 : ch (negC (remP a b)) ≠ [] := fun e => r0 (List.length_eq_zero_iff.1 (by rw [← cl, e]; rfl))
   have hcM := hc.ok.ht _ _ tn hr.neg
   obtain ⟨M', hM'⟩ : ∃ M', M + (e + 1) * M + 1 = M' := ⟨_, rfl⟩
   rw [hM'] at hcM
   have em : (e + 1) * M = e * M + M := by rw [Nat.add_mul, Nat.one_mul]
   have k1 : M' + 1 ≤ (M + 1) * 3 ^ e := by
    have := Nat.mul_le_mul_left (M + 1) p3
    have e5 : (M + 1) * (e + 2) = e * M + 2 * M + (e + 2) := by rw [Nat.add_mul, Nat.mul_add, Nat.mul_comm M e]; omega
    omega
   have k2 : (M' + 1) * 3 ^ b.length ≤ G := by
    refine Nat.le_trans (Nat.mul_le_mul_right _ k1) ?_
    rw [Nat.mul_assoc, Nat.mul_comm (3 ^ e), ← pw]; exact bud
   have ih := far_js hs hc n tb (hc.ok.tr _ tn) b0 c0 (by rw [cl]; exact lr) (hb.mono (by omega)) hcM k2 hz2 (by rw [cl]; omega)
   have lead0 : lead (negC (remP a b)) ≠ 0 := lead_ne tn n0
   have hk := ok_low (show okQ (M + (e + 1) * M) (lead (negC (remP a b))) from hr.neg.ok _) lead0
   have step := FarB.step (a := a) (q := (divP a b).1) (k := ab (lead (negC (remP a b)))) ih (fun x => by
    have hs := eval_ext x (divP_spec ta tb b0).2.2.2
    rw [eval_add, qAe] at hs
    have h2 := kl x
    rw [← h2]
    unfold negC
    rw [qAx, show remP a b = (divP a b).2 from rfl]
    grind) hk (fun i => hq.ok i) (m := 32 * (M + (e + 1) * M + M) + 13 * (e + 1) + 1) (by omega)
   refine step.mono ?_
   rw [cl]
   obtain ⟨j, hj⟩ : ∃ j, b.length = j + 1 := ⟨b.length - 1, by omega⟩
   have lr1 := ne_len r0
   have t1 := farT_le (show (remP a b).length ≤ j by omega)
   have t2 := farT_step (show 1 ≤ j by omega)
   rw [hj]
   have g1 := Nat.mul_le_mul_right G t1
   -- the room that one step leaves
   have room : farT j * G + 81 * ((M + 1) * 3 ^ e) ≤ farT (j + 1) * G := by
    obtain ⟨d, hd⟩ : ∃ d, farT (j + 1) = farT j + d := ⟨farT (j + 1) - farT j, by have := farT_le (show j ≤ j + 1 by omega); omega⟩
    have e9 : (farT j + d) * G = farT j * G + d * G := Nat.add_mul ..
    rw [hd, e9]
    rw [hd, Nat.add_mul] at t2
    have h3 : 81 ≤ d * 3 ^ (j + 1) := by omega
    have h4 : (M + 1) * 3 ^ e * 3 ^ (j + 1) ≤ G := by
     rw [Nat.mul_assoc, Nat.mul_comm (3 ^ e), ← hj, ← pw]; exact bud
    have h5 := Nat.mul_le_mul_left ((M + 1) * 3 ^ e) h3
    have h6 := Nat.mul_le_mul_left d h4
    have h7 : (M + 1) * 3 ^ e * (d * 3 ^ (j + 1)) = d * ((M + 1) * 3 ^ e * 3 ^ (j + 1)) := by
     rw [Nat.mul_left_comm]
    omega
   have h8 := Nat.mul_le_mul_left (M + 1) p3
   have e5 : (M + 1) * (e + 2) = e * M + 2 * M + (e + 2) := by rw [Nat.add_mul, Nat.mul_add, Nat.mul_comm M e]; omega
   omega
theorem depth {ch : List Rat -> List Rat} (hs : ChS ch) (hc : ChX ch) {Q : List Rat} (tQ : Tr Q) (hb : Bez Q (derP Q)) {H : Nat} (hQ : HtP H Q) (hE : HtP (H + 1) (derP Q)) (lQ : Q.length ≤ 6) (hB : (H + 3) * 3 ^ Q.length ≤ 25000) (hH : H ≤ 400) {n : Nat} (hn : Q.length < n) {lo hi : Rat} (l32 : -4096 ≤ lo) (h32 : hi ≤ 4096) (hlt : lo < hi) (hd : hi - lo ≤ hw 1 463000) : vrs ((chainL ch n Q (derP Q)).map qAa) lo - vrs ((chainL ch n Q (derP Q)).map qAa) hi ≤ 1 := by
 have Q0 : Q ≠ [] := fun e => by
  obtain ⟨u, v, h⟩ := hb
  have := h 0
  rw [e] at this
  have e0 : qAa [] 0 = 0 := rfl
  have e1 : qAa (derP []) 0 = 0 := rfl
  rw [e0, e1, Rat.mul_zero, Rat.mul_zero] at this
  exact absurd this (by decide +kernel)
 have tE : Tr (derP Q) := qAk _
 have lt : (derP Q).length < Q.length := by
  have := derP_lt (p := Q) (by rw [trim_of tQ]; exact Q0)
  rwa [trim_of tQ] at this
 by_cases E0 : derP Q = []
 ·obtain ⟨m, rfl⟩ : ∃ m, n = m + 1 := ⟨n - 1, by omega⟩
  rw [chain_cons ch Q0, if_pos E0]
  have hz : ∀ z, vrs (List.map qAa [Q]) z = 0 := fun z => by simp [vrs, sgs, chg]
  rw [hz, hz]; decide
 ·have lE := ne_len E0
  have f := far_js hs hc (G := 25000) _ tQ tE Q0 E0 lt (hQ.mono (Nat.le_succ H)) hE (Nat.le_trans (Nat.mul_le_mul_right _ (by omega)) hB) hb (Nat.le_refl _)
  have ft := farT_le (show (derP Q).length ≤ 5 by omega)
  have f5 : farT 5 = 18 := rfl
  rw [f5] at ft
  have f2 := f.mono (Nat.mul_le_mul_right 25000 ft)
  have p9 : 3 ^ 2 ≤ 3 ^ Q.length := Nat.pow_le_pow_right (by decide) (by omega)
  have h9 := Nat.mul_le_mul_left (H + 3) p9
  refine one_root hs tQ hb hn f2 (H := H + 1) (fun i => (hQ.mono (Nat.le_succ H)).ok i) (fun i => hE.ok i) (Nat.le_of_lt lt) l32 h32 hlt (Rat.le_trans hd (hw_mono ?_))
  omega
theorem pow52 : ∀ e : Nat, 1 ≤ e -> (5 * e + 7) * 2 ^ e ≤ 5 * 5 ^ e ∧ 5 * 2 ^ e ≤ 2 * 5 ^ e ∧ 12 * 2 ^ e ≤ 5 * 5 ^ e
 | 1, _ => by decide
 | e + 2, _ => by
  obtain ⟨h1, h2, h3⟩ := pow52 (e + 1) (by omega)
  rw [show 2 ^ (e + 2) = 2 ^ (e + 1) * 2 from Nat.pow_succ .., show 5 ^ (e + 2) = 5 ^ (e + 1) * 5 from Nat.pow_succ ..]
  generalize 2 ^ (e + 1) = u at *
  generalize 5 ^ (e + 1) = v at *
  refine ⟨?_, by omega, by omega⟩
  have e1 : (5 * (e + 2) + 7) * (u * 2) = 10 * (e * u) + 34 * u := by grind
  have e2 : (5 * (e + 1) + 7) * u = 5 * (e * u) + 12 * u := by grind
  omega
theorem pot_step {h l e : Nat} (he : 1 ≤ e) : (2 * (l + 1) + 5 * (h + (e + 1) * l + 1) + 5) * 2 ^ e ≤ (2 * h + 5 * l + 5) * 5 ^ e := by
 obtain ⟨h1, h2, h3⟩ := pow52 e he
 have a1 := Nat.mul_le_mul_left l h1
 have a2 := Nat.mul_le_mul_left h h2
 generalize 2 ^ e = u at *
 generalize 5 ^ e = v at *
 have e1 : (2 * (l + 1) + 5 * (h + (e + 1) * l + 1) + 5) * u = h * (5 * u) + l * ((5 * e + 7) * u) + 12 * u := by grind
 have e2 : (2 * h + 5 * l + 5) * v = h * (2 * v) + l * (5 * v) + 5 * v := by grind
 omega
theorem gcdPot {N B : Nat} : ∀ (n : Nat) {p q : List Rat} {h l : Nat}, Tr p -> Tr q -> p ≠ [] -> HtP h p -> HtP l q -> (q = [] -> 2 * h ≤ l + 1) -> q.length < p.length -> p.length ≤ N -> (2 * h + 5 * l + 5) * 5 ^ p.length * 2 ^ (N - p.length) ≤ B -> q.length ≤ n -> ∃ h', HtP (h' + 1) (gcdP p q) ∧ 12 * h' * 5 ^ (gcdP p q).length * 2 ^ (N - (gcdP p q).length) ≤ B := by
 intro n
 induction n with
 | zero =>
  intro p q h l tp tq p0 hp hq hl1 hl hN bud hn
  have : q = [] := List.length_eq_zero_iff.1 (by omega)
  subst this
  rw [gcdP_nil]
  refine ⟨h, hp.monic, ?_⟩
  rw [show (monicP p).length = p.length from len_smul _ _]
  have := hl1 rfl
  refine Nat.le_trans (Nat.mul_le_mul_right _ (Nat.mul_le_mul_right _ ?_)) bud
  omega
 | succ n ih =>
  intro p q h l tp tq p0 hp hq hl1 hl hN bud hn
  by_cases q0 : q = []
  ·subst q0; exact ih tp tq p0 hp hq hl1 hl hN bud (by simp)
  ·have e := gcdP_step tp tq q0 (a := 1 / lead q) (b := 1) (inv_lead tq q0).1 (by decide)
   rw [smul_one] at e
   rw [show gcdP p q = gcdP (monicP q) (remP p q) from e]
   have hr := remP_ht tp tq q0 hp hq
   have lr := rem_len tp tq q0
   have hml : (monicP q).length = q.length := len_smul _ _
   have m0 : monicP q ≠ [] := fun e => q0 (List.length_eq_zero_iff.1 (by rw [← hml, e]; rfl))
   obtain ⟨d, hd⟩ : ∃ d, p.length = q.length + d := ⟨p.length - q.length, by omega⟩
   rw [show p.length + 1 - q.length = d + 1 by omega] at hr
   have dl : (d + 1) * l = d * l + l := by rw [Nat.add_mul, Nat.one_mul]
   refine ih (h := l + 1) (l := h + (d + 1) * l + 1) (tr_monic tq) (tr_rem tp tq q0) m0 hq.monic (hr.mono (by omega)) ?_ (by rw [hml]; exact lr) (by rw [hml]; omega) ?_ (by omega)
   ·intro _
    have h2 := Nat.mul_le_mul_right l (show 1 ≤ d by omega)
    omega
   ·rw [hml]
    have st := pot_step (h := h) (l := l) (e := d) (by omega)
    have e5 : 5 ^ p.length = 5 ^ d * 5 ^ q.length := by rw [hd, Nat.add_comm, Nat.pow_add]
    have e2 : 2 ^ (N - q.length) = 2 ^ d * 2 ^ (N - p.length) := by rw [← Nat.pow_add]; congr 1; omega
    rw [e5] at bud
    rw [e2]
    refine Nat.le_trans ?_ bud
    generalize 5 ^ q.length = f at *
    generalize 2 ^ (N - p.length) = g at *
    have s1 := Nat.mul_le_mul_right (f * g) st
    generalize (2 * (l + 1) + 5 * (h + (d + 1) * l + 1) + 5) = x at *
    generalize (2 * h + 5 * l + 5) = y at *
    generalize 2 ^ d = u at *
    generalize 5 ^ d = v at *
    have x1 : x * f * (u * g) = x * u * (f * g) := by grind
    have x2 : y * (v * f) * g = y * v * (f * g) := by grind
    omega
inductive Iso (C : Rat -> Rat -> Int) : I2 -> List I2 -> Prop
 | zero {x : I2} (h : C x.1 x.2 = 0) : Iso C x []
 | one {x : I2} (h : C x.1 x.2 = 1) : Iso C x [x]
 | two {x : I2} {l m : List I2} (h0 : C x.1 x.2 ≠ 0) (h1 : C x.1 x.2 ≠ 1) (hl : Iso C (x.1, mid2 x) l) (hm : Iso C (mid2 x, x.2) m) : Iso C x (l ++ m)
structure Cnt (C : Rat -> Rat -> Int) : Prop where
 none : ∀ a b, ¬ a < b -> C a b = 0
 nonneg : ∀ a b, a < b -> 0 ≤ C a b
 add : ∀ a m b, a < m -> m < b -> C a m + C m b = C a b
theorem Iso.len {C : Rat -> Rat -> Int} (hC : Cnt C) {x : I2} {l : List I2} (h : Iso C x l) : (l.length : Int) = C x.1 x.2 := by
 induction h with
 | zero h => exact h.symm
 | one h => exact h.symm
 | two h0 h1 _ _ i1 i2 =>
  rename_i x l m _ _
  have hlt : x.1 < x.2 := Classical.byContradiction fun e => h0 (hC.none _ _ e)
  obtain ⟨m1, m2⟩ := (mid_bd (Rat.le_of_lt hlt)).2.2 hlt
  have := hC.add _ _ _ m1 m2
  rw [List.length_append]
  dsimp only at i1 i2
  omega
theorem Iso.parts {C : Rat -> Rat -> Int} (hC : Cnt C) {x : I2} {l : List I2} (h : Iso C x l) : (∀ y ∈ l, x.1 ≤ y.1 ∧ y.1 < y.2 ∧ y.2 ≤ x.2 ∧ C y.1 y.2 = 1) ∧ l.Pairwise (fun a b => a.2 ≤ b.1) := by
 induction h with
 | zero h => exact ⟨fun y hy => by simp at hy, List.Pairwise.nil⟩
 | one h =>
  rename_i x
  refine ⟨fun y hy => ?_, by simp⟩
  rw [List.mem_singleton.1 hy]
  have hlt : x.1 < x.2 := Classical.byContradiction fun e => by rw [hC.none _ _ e] at h; cases h
  exact ⟨Rat.le_refl, hlt, Rat.le_refl, h⟩
 | two h0 h1 _ _ i1 i2 =>
  rename_i x l m _ _
  have hlt : x.1 < x.2 := Classical.byContradiction fun e => h0 (hC.none _ _ e)
  obtain ⟨m1, m2⟩ := (mid_bd (Rat.le_of_lt hlt)).2.2 hlt
  obtain ⟨a1, a2⟩ := i1
  obtain ⟨b1, b2⟩ := i2
  refine ⟨fun y hy => ?_, List.pairwise_append.2 ⟨a2, b2, fun u hu v hv => ?_⟩⟩
  ·rcases List.mem_append.1 hy with hy | hy
   ·obtain ⟨c1, c2, c3, c4⟩ := a1 y hy
    exact ⟨c1, c2, Rat.le_trans c3 (Rat.le_of_lt m2), c4⟩
   ·obtain ⟨c1, c2, c3, c4⟩ := b1 y hy
    exact ⟨Rat.le_trans (Rat.le_of_lt m1) c1, c2, c3, c4⟩
  ·exact Rat.le_trans (a1 u hu).2.2.1 (b1 v hv).1
theorem half_w {x : I2} {w : Rat} (h : x.1 ≤ x.2) (hw : x.2 - x.1 ≤ w) : mid2 x - x.1 ≤ w / 2 ∧ x.2 - mid2 x ≤ w / 2 := by
 have e1 := half_eq (x.1 + x.2)
 have e2 := half_eq w
 unfold mid2
 generalize (x.1 + x.2) / 2 = m at *
 generalize w / 2 = d at *
 constructor <;> grind
end Go.Vw
namespace Go.Vw
open Go.RowKit
def isAppC (o : Oper) : Bool := match o.op with | .call _ => true | _ => false
def conflAC (all : Array Oper) (a b : Oper) : Bool := looksB all b a.dst || looksB all a b.dst || (match a.dst, b.dst with | some x, some y => x == y | _, _ => false) || (isAppC a && isAppC b)
def ordAC (ops : Array Oper) (n : Nat) : Bool :=
 backward ops && Nat.ble n ops.size &&
 ((List.range n).all fun j => match ops[j]? with
  | some b => (List.range j).all fun i => match ops[i]? with
   | some a => !(conflAC ops a b) || ((masks ops.toList []).getD j 0).testBit i
   | none => false
  | none => false) &&
 ((List.range ops.size).all fun i => Nat.blt i n || Nat.beq ((masks ops.toList []).getD i 0) (2 ^ i - 1)) &&
 ((List.range n).all fun j => match ops[j]? with
  | some b => isAppC b || (List.range n).all fun i => match ops[i]? with | some a => !(isAppC a) || !(looksB ops b a.dst) | none => false
  | none => false)
structure OrdAC (ops : Array Oper) (n : Nat) : Prop where
 tf : TailFacts ops n
 ord : ∀ i j a b, i < j -> j < n -> ops[i]? = some a -> ops[j]? = some b -> conflAC ops a b = true -> ((masks ops.toList []).getD j 0).testBit i = true
 reg : ∀ i j a b, i < n -> j < n -> ops[i]? = some a -> ops[j]? = some b -> isAppC a = true -> isAppC b = false -> looksB ops b a.dst = false
theorem ordA_specC {ops : Array Oper} {n : Nat} (h : ordAC ops n = true) : OrdAC ops n := by
  simp only [ordAC, Bool.and_eq_true] at h
  obtain ⟨⟨⟨⟨hb, hle⟩, hm⟩, ht⟩, hr⟩ := h
  refine ⟨⟨fun i o hi e he hbind => ?_, Nat.le_of_ble_eq_true hle, fun i h1 h2 j hj => ?_⟩, fun i j a b hij hj ha hb' hc => ?_, fun i j a b hi hj ha hb' h1 h2 => ?_⟩
  · simp only [backward, List.all_eq_true, List.mem_range] at hb
    have := hb i (Array.getElem?_eq_some_iff.1 hi).1
    rw [hi] at this
    simp only [List.all_eq_true] at this
    have := this e (by simpa using he)
    rw [hbind] at this
    simpa [Nat.blt_eq] using this
  · simp only [List.all_eq_true, List.mem_range] at ht
    have h3 := ht i h2
    have hnb : Nat.blt i n = false := by
      cases hq : Nat.blt i n with
      | false => rfl
      | true => have : i < n := by simpa [Nat.blt_eq] using hq
                omega
    rw [hnb, Bool.false_or] at h3
    have h4 := Nat.eq_of_beq_eq_true h3
    rw [h4, Nat.testBit_two_pow_sub_one]
    simpa using hj
  · simp only [List.all_eq_true, List.mem_range] at hm
    have h1 := hm j hj
    rw [hb'] at h1
    simp only [List.all_eq_true, List.mem_range] at h1
    have h2 := h1 i hij
    rw [ha] at h2
    simp only [hc, Bool.not_true, Bool.false_or] at h2
    exact h2
  · simp only [List.all_eq_true, List.mem_range] at hr
    have h3 := hr j hj
    rw [hb'] at h3
    simp only [h2, Bool.false_or, List.all_eq_true, List.mem_range] at h3
    have h4 := h3 i hi
    rw [ha] at h4
    simpa only [h1, Bool.not_true, Bool.false_or, Bool.not_eq_true'] using h4
inductive PRunAC (X : Ctx) (all : Array Oper) (ks : List Nat) : List Oper -> St -> St -> Prop
 | nil {s : St} : PRunAC X all ks [] s s
 | reg {o : Oper} {rest : List Oper} {s s' : St} {x : V} (hd : dstOk X.N o.dst = true) (h : ∀ s' : St, (∀ t ∈ o.looksAt all, s'.tmps t = s.tmps t) -> M1 X all s' o x) (hna : isAppC o = false) (hx : (ks.all fun k => x.noKey k) = true) (k : PRunAC X all ks rest (s.put o.dst x) s') : PRunAC X all ks (o :: rest) s s'
 | app {o : Oper} {rest : List Oper} {s s' : St} {d : Tmp} {x : V} {k : Nat} {b : Blk} (ha : isAppC o = true) (hd : o.dst = some d) (hk : ks.contains k = true) (h : ∀ s' : St, s'.blk = s.blk -> (∀ t ∈ o.looksAt all, s'.tmps t = s.tmps t) -> E1 X all s' o ((s'.new k b).put (some d) x)) (kk : PRunAC X all ks rest ((s.new k b).put (some d) x) s') : PRunAC X all ks (o :: rest) s s'
inductive UpdOkAC (X : Ctx) (all : Array Oper) (ks : List Nat) (s : St) (o : Oper) : UpdA -> Prop
 | reg {x : V} (hd : dstOk X.N o.dst = true) (h : ∀ s' : St, (∀ t ∈ o.looksAt all, s'.tmps t = s.tmps t) -> M1 X all s' o x) (hna : isAppC o = false) (hx : (ks.all fun k => x.noKey k) = true) : UpdOkAC X all ks s o (.reg o.dst x)
 | app {d : Tmp} {x : V} {k : Nat} {b : Blk} (ha : isAppC o = true) (hd : o.dst = some d) (hk : ks.contains k = true) (h : ∀ s' : St, s'.blk = s.blk -> (∀ t ∈ o.looksAt all, s'.tmps t = s.tmps t) -> E1 X all s' o ((s'.new k b).put (some d) x)) : UpdOkAC X all ks s o (.app d x k b)
theorem prunA_usC {X : Ctx} {all : Array Oper} {ks : List Nat} : ∀ {l : List Oper} {s s' : St}, PRunAC X all ks l s s' -> ∃ us : Nat -> UpdA, s' = accA s us (fun _ => true) l.length ∧ ∀ i o, l[i]? = some o -> UpdOkAC X all ks (accA s us (fun _ => true) i) o (us i)
 | [], s, s', h => by
  cases h
  exact ⟨fun _ => .reg none (.d .undef), rfl, fun i o h => by simp at h⟩
 | o :: rest, s, s', h => by
  have shift : ∀ (u0 : UpdA) (us : Nat -> UpdA) (m : Nat) (s0 : St), accA s0 (fun i => match i with | 0 => u0 | i + 1 => us i) (fun _ => true) (m + 1) = accA (apA s0 u0) us (fun _ => true) m := fun u0 us m s0 => by
   induction m with
   | zero => rfl
   | succ m ih => rw [accA, ih]; rfl
  have fin : ∀ (u0 : UpdA), UpdOkAC X all ks s o u0 -> PRunAC X all ks rest (apA s u0) s' -> ∃ us : Nat -> UpdA, s' = accA s us (fun _ => true) (o :: rest).length ∧ ∀ i o', (o :: rest)[i]? = some o' -> UpdOkAC X all ks (accA s us (fun _ => true) i) o' (us i) := fun u0 h0 hk => by
   obtain ⟨us, h1, h2⟩ := prunA_usC hk
   refine ⟨fun i => match i with | 0 => u0 | i + 1 => us i, ?_, fun i o' hi => ?_⟩
   ·rw [List.length_cons, shift, h1]
   ·cases i with
    | zero => simp at hi; subst hi; exact h0
    | succ i => rw [shift]; exact h2 i o' (by simpa using hi)
  cases h with
  | reg hd hm hna hx hk => exact fin _ (.reg hd hm hna hx) hk
  | app ha hd hk hm kk => exact fin _ (.app ha hd hk hm) kk
theorem awp_region_appC {X : Ctx} (hm : X.P.follows .mixedOrders = true) {id : Nat} {ops : List Oper} (n : Nat) (ks : List Nat) (hok : ordAC ops.toArray n = true) {Q : Exit -> St -> Prop} {sx s1 : St} (hKs : (ks.all fun k => !(X.K.contains k)) = true) (hdf : sx.dfs = []) (hrun : PRunAC X ops.toArray ks (ops.take n) (sx.kills ks) s1) (htail : awpL X ops.toArray (ops.drop n) Q s1) : awp X (.region id ops.toArray true) Q sx := by
  have hf := ordA_specC hok
  have hfree := FreeSt.kills (s := sx) ks
  have hdf2 : (sx.kills ks).dfs = [] := by
    clear hrun hfree hKs
    induction ks with
    | nil => exact hdf
    | cons k r ih =>
      show dfSub k none (sx.kills r).dfs = []
      rw [ih]; rfl
  have main : awp X (.region id ops.toArray true) Q (sx.kills ks) := by
    generalize sx.kills ks = s at hfree hrun hdf2
    obtain ⟨us, hs1, hx⟩ := prunA_usC hrun
    have hle := hf.tf.le
    have hsz : ops.toArray.size = ops.length := rfl
    have getop : ∀ i, i < n -> (ops.take n)[i]? = ops.toArray[i]? := fun i hi => by simp [List.getElem?_take, hi]
    have hlen : (ops.take n).length = n := by simp; omega
    rw [hlen] at hs1
    have ok : ∀ i o, i < n -> ops.toArray[i]? = some o -> UpdOkAC X ops.toArray ks (accA s us (fun _ => true) i) o (us i) := fun i o hi ho => hx i o (by rw [getop i hi]; exact ho)
    have getn : ∀ j, j < n -> ∃ o, ops.toArray[j]? = some o := fun j hj => ⟨_, Array.getElem?_eq_getElem (by omega)⟩
    have dstOf : ∀ i o, i < n -> ops.toArray[i]? = some o -> (us i).dst = o.dst ∧ (us i).isApp = isAppC o := fun i o hi ho => by
      have := ok i o hi ho
      generalize us i = u at this
      cases this with
      | reg _ _ hna => exact ⟨rfl, hna.symm⟩
      | app ha hd => exact ⟨hd.symm, ha.symm⟩
    have regx : ∀ i, i < n -> ∀ d x, us i = .reg d x -> ∀ k ∈ ks, x.noKey k = true := fun i hi d x hu k hk => by
      obtain ⟨o, ho⟩ := getn i hi
      have := ok i o hi ho
      rw [hu] at this
      cases this with
      | reg _ _ _ hx => rw [List.all_eq_true] at hx; exact hx k hk
    have appk : ∀ i, i < n -> ∀ d x k b, us i = .app d x k b -> k ∈ ks := fun i hi d x k b hu => by
      obtain ⟨o, ho⟩ := getn i hi
      have := ok i o hi ho
      rw [hu] at this
      cases this with
      | app _ _ hk => simpa [List.contains_eq_mem] using hk
    have full : ∀ i, i ≤ n -> accA s us (fun _ => true) i = accA s us (fun j => decide (j < i)) n := fun i hi => by
      have h1 : accA s us (fun _ => true) i = accA s us (fun j => decide (j < i)) i := accA_congr i fun j hj => by simp [hj]
      have h2 : ∀ m, i ≤ m -> m ≤ n -> accA s us (fun j => decide (j < i)) m = accA s us (fun j => decide (j < i)) i := by
        intro m
        induction m with
        | zero => intro h1 _; obtain rfl : i = 0 := by omega
                  rfl
        | succ m ih =>
          intro h1 h2
          by_cases e : i = m + 1
          · rw [e]
          · simp only [accA]; rw [ih (by omega) (by omega)]; simp [show ¬ m < i by omega]
      rw [h1, h2 n hi (Nat.le_refl _)]
    refine awp_region_gen hm n hf.tf (fun L => accA s us L n) (s1 := s1) ?_ (fun L h1 h2 => ?_) (fun L i o hi ho hLi hLn hLp hLc => ?_) htail
    · have : ∀ m, accA s us (fun _ => false) m = s := by
        intro m
        induction m with
        | zero => rfl
        | succ m ih => simp only [accA, cond_false]; exact ih
      exact this n
    · rw [hs1]
      exact accA_congr n fun j hj => h1 j hj
    · have diff : ∀ j b, j < n -> ops.toArray[j]? = some b -> conflAC ops.toArray b o = true ∨ conflAC ops.toArray o b = true -> L j = decide (j < i) := fun j b hj hb hc => by
        have sym : conflAC ops.toArray b o = true ∧ conflAC ops.toArray o b = true := by
          have : conflAC ops.toArray b o = conflAC ops.toArray o b := by
            unfold conflAC
            rw [Bool.or_comm (looksB ops.toArray o b.dst), Bool.and_comm (isAppC b)]
            congr 1
            congr 1
            cases b.dst <;> cases o.dst <;> simp [Bool.beq_comm, eq_comm]
          rw [this] at hc ⊢
          simpa using hc
        rcases Nat.lt_trichotomy j i with h | h | h
        · rw [decide_eq_true h]; exact hLp j h (hf.ord j i b o h hi hb ho sym.1)
        · subst h; rw [hLi, decide_eq_false (by omega)]
        · rw [decide_eq_false (by omega)]
          cases hL : L j with
          | false => rfl
          | true =>
            have := hLc j hL i (hf.ord i j o b h hj ho hb sym.2)
            rw [hLi] at this; cases this
      have hins : accA s us (insL L i) n = apA (accA s us L n) (us i) := accA_insert hLi n hi fun j hij hjn hLj s0 => by
        obtain ⟨b, hb⟩ := getn j hjn
        have hnc : conflAC ops.toArray o b = false := by
          cases hc : conflAC ops.toArray o b with
          | false => rfl
          | true =>
            have := hLc j hLj i (hf.ord i j o b hij hjn ho hb hc)
            rw [hLi] at this; cases this
        simp only [conflAC, Bool.or_eq_false_iff] at hnc
        obtain ⟨⟨_, h3⟩, h4⟩ := hnc
        have hd : ∀ t, (us i).dst = some t -> (us j).dst ≠ some t := fun t e1 e2 => by
          rw [(dstOf i o hi ho).1] at e1
          rw [(dstOf j b hjn hb).1] at e2
          rw [e1, e2] at h3
          simp at h3
        have hap : ¬ ((us i).isApp = true ∧ (us j).isApp = true) := fun ⟨e1, e2⟩ => by
          rw [(dstOf i o hi ho).2] at e1
          rw [(dstOf j b hjn hb).2] at e2
          rw [e1, e2] at h4; cases h4
        cases hui : us i with
        | reg d x =>
          rw [hui] at hd
          cases huj : us j with
          | reg d' x' => rw [huj] at hd; simp only [apA]; exact put_comm hd
          | app d' x' k' b' =>
            rw [huj] at hd
            simp only [apA]
            rw [new_put (regx i hi d x hui k' (appk j hjn d' x' k' b' huj))]
            exact put_comm (d := d) (d' := some d') hd
        | app d x k' b' =>
          rw [hui] at hd hap
          cases huj : us j with
          | reg d' x' =>
            rw [huj] at hd
            simp only [apA]
            rw [new_put (regx j hjn d' x' huj k' (appk i hi d x k' b' hui))]
            exact put_comm (d := some d) (d' := d') hd
          | app d' x' k'' b'' => rw [huj] at hap; exact absurd ⟨rfl, rfl⟩ hap
      show E1 X ops.toArray (accA s us L n) o (accA s us (insL L i) n)
      rw [hins]
      have hoki := ok i o hi ho
      cases hui : us i with
      | reg d x =>
        rw [hui] at hoki
        cases hoki with
        | reg hd h hna hxx =>
          refine (h (accA s us L n) fun t ht => ?_).e1 hd
          rw [full i (by omega)]
          refine (accA_reg (ks := ks) (fun k hk => (hfree k hk).tm t) n (fun j hj hu => ?_) regx appk).1
          obtain ⟨b, hb⟩ := getn j hj
          have hbd : b.dst = some t := by rw [← (dstOf j b hj hb).1]; exact hu
          refine ⟨diff j b hj hb (.inl (by simp [conflAC, hbd, looksB_of ht])), ?_⟩
          rw [(dstOf j b hj hb).2]
          cases hab : isAppC b with
          | false => rfl
          | true =>
            have := hf.reg j i b o hj hi hb ho hab hna
            rw [hbd, looksB_of ht] at this; cases this
      | app d x k b =>
        rw [hui] at hoki
        cases hoki with
        | app ha hd hk h =>
          have happ : ∀ j, j < n -> (us j).isApp = true -> L j = decide (j < i) := fun j hj hu => by
            obtain ⟨b', hb'⟩ := getn j hj
            exact diff j b' hj hb' (.inl (by simp [conflAC, ha, ← (dstOf j b' hj hb').2, hu]))
          refine h (accA s us L n) ?_ fun t ht => ?_
          · rw [full i (by omega)]
            exact accA_blk n happ
          · rw [full i (by omega)]
            refine accA_app n (fun j hj hu => ?_) happ
            obtain ⟨b', hb'⟩ := getn j hj
            have hbd : b'.dst = some t := by rw [← (dstOf j b' hj hb').1]; exact hu
            exact diff j b' hj hb' (.inl (by simp [conflAC, hbd, looksB_of ht]))
  intro io F a w hs
  obtain ⟨io', hs'⟩ := SR.kills ks io (fun k hk => by
    simp only [List.all_eq_true] at hKs
    have := hKs k hk
    simpa [List.contains_eq_mem] using this) hs
  exact main io' F a w hs'
def awpAC (ks : List Nat) (X : Ctx) (all : Array Oper) (pre rest : List Oper) (Q : Exit -> St -> Prop) (s : St) : Prop := ∃ s1, PRunAC X all ks pre s s1 ∧ awpL X all rest Q s1
section
variable {X : Ctx} {all : Array Oper} {Q : Exit -> St -> Prop} {s : St} {o : Oper} {pre rest : List Oper} {ks : List Nat}
theorem awpA_nilC (h : awpL X all rest Q s) : awpAC ks X all [] rest Q s := ⟨s, .nil, h⟩
theorem stepAQC {d : Tmp} {C : Prop} {x : V} (m : Bool) (hk : Nat.beq (opK o.op) 0 = true) (hg : gd all s o = some true) (hdst : o.dst = some d) (hd : dstOk X.N (some d) = true) (hq : evalF X.T m s o.op = some (C, x)) (hC : C) (hfr : freeOp s o = true) (hna : isAppC o = false) (hf : (ks.all fun k => x.noKey k) = true) (k : awpAC ks X all pre rest Q (s.put (some d) x)) : awpAC ks X all (o :: pre) rest Q s := by
 rw [← hdst] at hd k
 obtain ⟨s1, h1, h2⟩ := k
 refine ⟨s1, .reg hd (fun s' hs' => m_q m ((gd_agree hs').trans hg) ?_ hC) hna hf h1, h2⟩
 rw [evalF_eq] at hq ⊢
 unfold freeOp at hfr
 rw [Bool.or_eq_true, Bool.or_eq_true] at hfr
 rcases hfr with (hfr | hfr) | hfr
 ·rw [evalQ_move hfr hs']; exact hq
 ·rw [evalQ_slice hfr hs']; exact hq
 ·rw [Bool.and_eq_true] at hfr
  refine evalQ_load hfr.1 hq hs' fun k b hkey _ => ?_
  rw [hkey] at hfr
  cases hfr.2
def isBd (o : Oper) : Bool := match o.op with | .build .. => true | _ => false
theorem evalQ_bd {T : TypeId -> Option TyD} {m : Bool} {s' : St} (hm : isBd o = true) (h : ∀ t ∈ o.looksAt all, s'.tmps t = s.tmps t) : evalQ T m s' o.op = evalQ T m s o.op := by
 have hop := fun y hy => opd_agree (s := s) (s' := s') (o := o) (all := all) (y := y) hy h
 unfold isBd at hm
 split at hm
 ·rename_i t parts e
  rw [e] at hop ⊢
  have e1 : (parts.toList.map fun p => (p.1, s'.opd p.2)) = parts.toList.map fun p => (p.1, s.opd p.2) := List.map_congr_left fun p hp => by
   rw [hop p.2 (by simp only [Op.operands]; simp; exact ⟨p.1, by simpa using hp⟩)]
  simp only [evalQ, e1]
 ·cases hm
theorem stepABd {d : Tmp} {C : Prop} {x : V} (m : Bool) (hk : Nat.beq (opK o.op) 0 = true) (hg : gd all s o = some true) (hdst : o.dst = some d) (hd : dstOk X.N (some d) = true) (hq : evalF X.T m s o.op = some (C, x)) (hC : C) (hfr : isBd o = true) (hna : isAppC o = false) (hf : (ks.all fun k => x.noKey k) = true) (k : awpAC ks X all pre rest Q (s.put (some d) x)) : awpAC ks X all (o :: pre) rest Q s := by
 rw [← hdst] at hd k
 obtain ⟨s1, h1, h2⟩ := k
 refine ⟨s1, .reg hd (fun s' hs' => m_q m ((gd_agree hs').trans hg) ?_ hC) hna hf h1, h2⟩
 rw [evalF_eq] at hq ⊢
 rw [evalQ_bd hfr hs']; exact hq
theorem refsL_data : ∀ ds : List D, V.refsL (ds.map V.d) = []
 | [] => by simp [V.refsL]
 | d :: ds => by
  have ih := refsL_data ds
  simp only [List.map_cons, V.refsL, V.refs, ih]
  rfl
theorem new_over {s : St} {k : Nat} {b : Blk} : (s.subs [k]).over [(k, b)] = s.new k b := by
 refine St.eta (funext fun t => rfl) (funext fun j => ?_) rfl
 show (match qAf [(k, b)] j with | some b => some b | none => (s.sub k none).blk j) = (bif Nat.beq j k then some b else (s.sub k none).blk j)
 simp only [qAf]
 cases Nat.beq j k <;> rfl
theorem clAC {c : Call} {caps : List V} {ds ds' : List D} {d : Tmp} {k : Nat} {b : Blk} {y : V} (f : FuncId) (hr : RetB X.P f (ds'.map V.d) (qAf []) y (qAf [(k, b)])) (hop : o.op = .call c) (hc : calleeOf s c = some (f, caps)) (hdst : o.dst = some d) (hg : gd all s o = some true) (hd : dstOk X.N (some d) = true) (ha : allD (c.args.toList.map s.opd ++ caps) = some ds) (hks : ks.contains k = true) (hK : X.K.contains k = false) (le : LeVT (ds.map V.d) (ds'.map V.d)) (r : awpAC ks X all pre rest Q ((s.new k b).put (some d) y)) : awpAC ks X all (o :: pre) rest Q s := by
 have hx : c.args.toList.map s.opd ++ caps = ds.map V.d := allD_map ha
 obtain ⟨s1, h1, h2⟩ := r
 refine ⟨s1, .app (by unfold isAppC; rw [hop]) hdst hks (fun s' hb' htm => ?_) h1, h2⟩
 obtain ⟨e1, e2⟩ := callee_agree (s := s) hop htm
 have h := e_callB (X := X) (all := all) (s := s') (o := o) [k] ((gd_agree htm).trans hg) (by rw [hdst]; exact hd) hop (e1.trans hc) (xs := ds'.map V.d) (by rw [e2, hx]; exact le) hr (fun k b h => by cases h) (fun k hk => ?_) (fun k b h => by cases h) (fun j hj => ?_) (fun j hj => ?_)
 ·rw [new_over, hdst] at h
  exact h
 ·exfalso
  have : V.refsL (ds'.map V.d) = [] := refsL_data ds'
  rw [this] at hk
  cases hk
 ·right
  simp only [qAf] at hj
  cases hb : Nat.beq j k with
  | true => rw [Nat.eq_of_beq_eq_true hb]; exact List.mem_singleton.2 rfl
  | false => rw [hb] at hj; exact absurd rfl hj
 ·rw [List.mem_singleton.1 hj]
  exact ⟨by simpa [List.contains_eq_mem] using hK, rfl⟩
theorem goAC {G : Prop} {ops : List Oper} (k : G) (h : G -> awpAC ks X all ops rest Q s := by
 first
 | exact Go.Vw.stepAQC true Go.Vw.tt Go.Vw.stt rfl rfl rfl Go.Vw.sc rfl rfl rfl
 | exact Go.Vw.awpA_nilC
 | exact Go.Vw.stepABd true Go.Vw.tt Go.Vw.stt rfl rfl rfl Go.Vw.sc rfl rfl rfl
 | exact Go.Vw.stepAQC false Go.Vw.tt Go.Vw.stt rfl rfl rfl Go.Vw.sc rfl rfl rfl
 | fail) : awpAC ks X all ops rest Q s := h k
theorem awp_regAC (id n : Nat) (ks : List Nat) {ops : List Oper} (h : awpAC ks X ops.toArray (ops.take n) (ops.drop n) Q (s.kills ks)) (hm : X.P.follows .mixedOrders = true) (hok : ordAC ops.toArray n = true) (hK : (ks.all fun k => !(X.K.contains k)) = true) (hdf : s.dfs = []) : awp X (.region id ops.toArray true) Q s := by
 obtain ⟨s1, h1, h2⟩ := h
 exact awp_region_appC hm n ks hok hK hdf h1 h2
end
end Go.Vw
namespace Go.Proofs.YtejigedigmagdaaGreat
open Go.Vw
attribute [local irreducible] awp awpL awpR awpAC
@[reducible] def qiC (i : I2) : List D := iC (rq i.1) (rq i.2)
@[reducible] def isD (l : List I2) : D := .sl 6 qiC (0, 0) l
@[reducible] def iO (k n : Nat) : V := .own k 0 n 32 6
@[reducible] def iB (l : List I2) : Blk := .data 32 6 qiC (0, 0) l
structure Deep (C : Rat -> Rat -> Int) (N : Nat) : Prop extends Cnt C where
 few : ∀ a b, C a b ≤ 100
 deep : ∀ a b, -4096 ≤ a -> b ≤ 4096 -> a < b -> b - a ≤ hw 1 N -> C a b ≤ 1
theorem isolate_0 {p : List Rat} (X : I2) (ct : Ret Tryz.prog 188 [qssD (ctr (qAd p)), qD X.1, qD X.2] (· = .int .i64 0)) : RetB Tryz.prog 154 [.d (qssD (ctr (qAd p))), .d (iQ X)] (qAf []) (iO 500 0) (qAf [(500, iB [])]) := by
 generalize ctr (qAd p) = F at *
 refine retB_of_awp tab [] Tryz.func154 rfl rfl rfl (lblz rfl) rfl trivial (fun w0 F0 A io0 => ?_)
 repeat' (first | refine stopA 3 tt ?_ | refine wG ?_ | refine wC ct ?_ | refine rg 7 11 ?_ | refine wS ?_ ?_ <;> intro _ | refine wB ?_ ?_)
 refine stopOut ?_
 refine awp_seq ?_
 refine awp_region ?_
 refine goL ?_
 refine goL ?_
 refine goN ?_
 refine awp_adopt 4 500 32 6 qiC (0, 0) rfl ?_
 repeat' (first | refine wG ?_ | refine rg 7 11 ?_ | refine wS ?_ ?_ <;> intro _ | refine wB ?_ ?_)
 all_goals first | exact leVT | exact ⟨rfl, trivial⟩
theorem isolate_1 {p : List Rat} (X : I2) (hX : X.1 ≤ X.2) (oX : okI 150000 X) (ct : Ret Tryz.prog 188 [qssD (ctr (qAd p)), qD X.1, qD X.2] (· = .int .i64 1)) : RetB Tryz.prog 154 [.d (qssD (ctr (qAd p))), .d (iQ X)] (qAf []) (iO 19 1) (qAf [(19, iB [X])]) := by
 have hu := interval_HullS X oX hX
 generalize ctr (qAd p) = F at *
 clear oX hX
 refine retB_of_awp tab [] Tryz.func154 rfl rfl rfl (lblz rfl) rfl trivial (fun w0 F0 A io0 => ?_)
 repeat' (first | refine stepLitO (d := 19) (en := qiC) (z := (0, 0)) rfl rfl rfl rfl rfl (LeR.cons rfl leL LeR.nil) ?_ | refine wG ?_ | refine wC ct ?_ | refine wC hu ?_ | refine rg 7 11 ?_ | refine wS ?_ ?_ <;> intro _ | refine wB ?_ ?_)
 all_goals first | exact leVT | exact ⟨rfl, trivial⟩
theorem isolate_2 {p : List Rat} (X : I2) (hX : X.1 ≤ X.2) (oX : okI 150000 X) (c : Int) (c0 : c ≠ 0) (c1 : c ≠ 1) (ct : Ret Tryz.prog 188 [qssD (ctr (qAd p)), qD X.1, qD X.2] (· = .int .i64 c)) (l m : List I2) (hl : l.length ≤ 1000) (hm : m.length ≤ 1000) (h1 : RetB Tryz.prog 154 [.d (qssD (ctr (qAd p))), .d (iQ (X.1, mid2 X))] (qAf []) (iO 27 l.length) (qAf [(27, iB l)])) (h2 : RetB Tryz.prog 154 [.d (qssD (ctr (qAd p))), .d (iQ (mid2 X, X.2))] (qAf []) (iO 33 m.length) (qAf [(33, iB m)])) : RetB Tryz.prog 154 [.d (qssD (ctr (qAd p))), .d (iQ X)] (qAf []) (iO 27 (l ++ m).length) (qAf [(27, iB (l ++ m))]) := by
 have md := interval_MidI X oX hX
 generalize ctr (qAd p) = F at *
 generalize mid2 X = z at *
 have r2 : RetB Tryz.prog 154 [.d (qssD F), .d (iQ (z, X.2))] (qAf []) (iO 33 m.length) (qAf [(33, iB m)]) := h2
 clear oX hX
 refine retB_of_awp tab [] Tryz.func154 rfl rfl rfl (lblz rfl) rfl trivial (fun w0 F0 A io0 => ?_)
 repeat' (first | refine stopA 7 tt ?_ | refine wG ?_ | refine wC ct ?_ | refine wC md ?_ | refine rg 7 11 ?_ | refine wS ?_ ?_ <;> intro _ | refine wB ?_ ?_)
 refine stopOut ?_
 refine awp_seq ?_
 refine awp_frz 3 rfl ?_
 refine awp_frz 5 rfl ?_
 refine awp_regAC 7 11 [27] ?_ mixed (by kernel_rfl) rfl rfl
 refine goAC ?_
 refine goAC ?_
 refine goAC ?_
 refine goAC ?_
 refine goAC ?_
 refine clAC (ds' := [qssD F, iQ (X.1, z)]) 154 h1 rfl rfl rfl rfl rfl rfl rfl rfl leVT ?_
 refine goAC ?_
 refine goAC ?_
 refine goAC ?_
 refine goAC ?_
 refine goAC ?_
 refine goAC ?_
 repeat' (first | refine wG ?_ | refine wD [33] r2 ?_ | refine rg 7 11 ?_ | refine wS ?_ ?_ <;> intro _ | refine wB ?_ ?_)
 all_goals first | exact leVT | exact ⟨rfl, trivial⟩ | exact blkEq rfl
theorem isolate_B {p : List Rat} (hp : PolOk p) (p0 : qAd p ≠ []) {N : Nat} (hN : N ≤ 4300000) (hC : Deep (cfn p) N) {D M : Nat} (D0 : D ≠ 0) (hD : D < 4294967296 * 4294967296) (hM : M < 4294967296 * 4294967296 * 4294967296) : ∀ (n j : Nat) (X : I2), j + n = 13 + N -> Dy D M j X.1 -> Dy D M j X.2 -> -4096 ≤ X.1 -> X.2 ≤ 4096 -> X.1 ≤ X.2 -> X.2 - X.1 ≤ hw 8192 j -> ∃ l : List I2, Iso (cfn p) X l ∧ (∀ y ∈ l, ∃ i, i ≤ 13 + N ∧ Dy D M i y.1 ∧ Dy D M i y.2) ∧ RetB Tryz.prog 154 [.d (qssD (ctr (qAd p))), .d (iQ X)] (qAf []) (iO 500 l.length) (qAf [(500, iB l)]) := by
 intro n
 induction n with
 | zero =>
  intro j X hj d1 d2 a1 a2 hX hw1
  have oX : okI 150000 X := ⟨(d1.ok D0 hD hM).mono (by omega), (d2.ok D0 hD hM).mono (by omega)⟩
  have ct := countV hp p0 X.1 X.2 oX.1 oX.2
  by_cases c0 : cfn p X.1 X.2 = 0
  ·rw [show cntF (ctr (qAd p)) X.1 X.2 = 0 from c0] at ct
   exact ⟨[], .zero c0, fun y hy => by simp at hy, isolate_0 X ct⟩
  ·have hlt : X.1 < X.2 := Classical.byContradiction fun e => c0 (hC.none _ _ e)
   have e64 : hw 8192 13 = 1 := by decide +kernel
   have hj2 : j = 13 + N := by omega
   rw [hj2, ← hw_add, e64] at hw1
   have h1 := hC.deep _ _ a1 a2 hlt hw1
   have h2 := hC.nonneg _ _ hlt
   have c1 : cfn p X.1 X.2 = 1 := by omega
   rw [show cntF (ctr (qAd p)) X.1 X.2 = 1 from c1] at ct
   exact ⟨[X], .one c1, fun y hy => by rw [List.mem_singleton.1 hy]; exact ⟨j, by omega, d1, d2⟩, (isolate_1 X hX oX ct).ren [(19, 500)]⟩
 | succ n ih =>
  intro j X hj d1 d2 a1 a2 hX hw1
  have oX : okI 150000 X := ⟨(d1.ok D0 hD hM).mono (by omega), (d2.ok D0 hD hM).mono (by omega)⟩
  have ct := countV hp p0 X.1 X.2 oX.1 oX.2
  by_cases c0 : cfn p X.1 X.2 = 0
  ·rw [show cntF (ctr (qAd p)) X.1 X.2 = 0 from c0] at ct
   exact ⟨[], .zero c0, fun y hy => by simp at hy, isolate_0 X ct⟩
  ·by_cases c1 : cfn p X.1 X.2 = 1
   ·rw [show cntF (ctr (qAd p)) X.1 X.2 = 1 from c1] at ct
    exact ⟨[X], .one c1, fun y hy => by rw [List.mem_singleton.1 hy]; exact ⟨j, by omega, d1, d2⟩, (isolate_1 X hX oX ct).ren [(19, 500)]⟩
   ·obtain ⟨m1, m2, _⟩ := mid_bd hX
    obtain ⟨w1, w2⟩ := half_w hX hw1
    obtain ⟨l, l1, lo, l2⟩ := ih (j + 1) (X.1, mid2 X) (by omega) d1.next (d1.mid D0 d2) a1 (Rat.le_trans m2 a2) m1 w1
    obtain ⟨m, k1, mo, k2⟩ := ih (j + 1) (mid2 X, X.2) (by omega) (d1.mid D0 d2) d2.next (Rat.le_trans a1 m1) a2 m2 w2
    have le1 := l1.len hC.toCnt
    have le2 := k1.len hC.toCnt
    have f1 := hC.few (X.1, mid2 X).1 (X.1, mid2 X).2
    have f2 := hC.few (mid2 X, X.2).1 (mid2 X, X.2).2
    exact ⟨l ++ m, .two c0 c1 l1 k1, fun y hy => (List.mem_append.1 hy).elim (lo y) (mo y), (isolate_2 X hX oX _ c0 c1 ct l m (by omega) (by omega) (l2.ren [(500, 27)]) (k2.ren [(500, 33)])).ren [(27, 500)]⟩
structure IsoL (p : List Rat) (X : I2) (l : List I2) : Prop where
 len : (l.length : Int) = cntV p X
 short : l.length ≤ 1000
 ok : ∀ y ∈ l, okI 150000 y
 holds : ∀ y ∈ l, holdsB p y = true
 inn : ∀ y ∈ l, X.1 ≤ y.1 ∧ y.1 < y.2 ∧ y.2 ≤ X.2
 ord : l.Pairwise (fun a b => a.2 ≤ b.1)
end Go.Proofs.YtejigedigmagdaaGreat
namespace Go.Proofs.YtejigedigmagdaaGreat
open Go.Vw
attribute [local irreducible] awp awpL awpR
theorem ctr_small {p : List Rat} (tp : Tr p) (p0 : p ≠ []) (hp : HtP 14 p) (lp : p.length ≤ 6) : CtrOk p ∧ ∃ M, JS (smallP (ctrQ p)) (smallP (derP (ctrQ p))) M := by
 have pw : (3 : Nat) ^ p.length ≤ 3 ^ 6 := Nat.pow_le_pow_right (by decide) lp
 have p6 : (3 : Nat) ^ 6 = 729 := by decide
 refine ctrOk_of (B := 11664) tp p0 hp (by decide) (by omega) (by decide) (by omega) (by decide) fun l g g1 gp hl h1 => ?_
 unfold Bud
 have hn : p.length + 1 - g ≤ 7 - g := by omega
 have q1 : (p.length + 1 - g) * l ≤ (7 - g) * l := Nat.mul_le_mul_right _ hn
 have q2 : (3 : Nat) ^ (p.length + 1 - g) ≤ 3 ^ (7 - g) := Nat.pow_le_pow_right (by decide) hn
 have fin : ∀ (m c : Nat), l ≤ m -> 7 - g = c -> 14 + c * m + m ≤ 2000000 -> (14 + c * m + m + 3) * 3 ^ c ≤ 2000000 -> 14 + (p.length + 1 - g) * l + l ≤ 2000000 ∧ (14 + (p.length + 1 - g) * l + l + 3) * 3 ^ (p.length + 1 - g) ≤ 2000000 := fun m c hm hc a b => by
  rw [hc] at q1 q2
  have q3 : c * l ≤ c * m := Nat.mul_le_mul_left _ hm
  refine ⟨by omega, Nat.le_trans (Nat.mul_le_mul (show _ ≤ 14 + c * m + m + 3 by omega) q2) b⟩
 have gs : g = 1 ∨ g = 2 ∨ g = 3 ∨ g = 4 ∨ g = 5 ∨ g = 6 := by omega
 rcases gs with e | e | e | e | e | e
 ·exact fin 3 6 (by have := h1 e; omega) (by omega) (by decide) (by decide)
 ·subst e; have := hl (by decide); exact fin 1296 5 (by omega) (by omega) (by decide) (by decide)
 ·subst e; have := hl (by decide); exact fin 432 4 (by omega) (by omega) (by decide) (by decide)
 ·subst e; have := hl (by decide); exact fin 144 3 (by omega) (by omega) (by decide) (by decide)
 ·subst e; have := hl (by decide); exact fin 48 2 (by omega) (by omega) (by decide) (by decide)
 ·subst e; have := hl (by decide); exact fin 16 1 (by omega) (by omega) (by decide) (by decide)
theorem cntF_nonneg {p : List Rat} (tp : Tr p) (p0 : p ≠ []) (a b : Rat) (h : a < b) : 0 ≤ cntF (ctr p) a b := by
 have hg := gcdP_tr tp (qAk (derC p))
 have tQ : Tr (ctrQ p) := (divP_spec tp hg.1 (hg.2 (.inl p0)).1).1
 have := vrs_le chS_small tQ (quot_bez tp p0) (n := (ctrQ p).length + 1) (Nat.lt_succ_self _) h
 unfold cntF
 rw [if_pos h, vrsF_eq, vrsF_eq]
 unfold ctr
 omega
theorem cntF_add (F : List (List Rat)) (a m b : Rat) (h1 : a < m) (h2 : m < b) : cntF F a m + cntF F m b = cntF F a b := by
 unfold cntF
 rw [if_pos h1, if_pos h2, if_pos (by grind)]
 omega
theorem numQ_bd (v : Int) : -30 ≤ numQ v ∧ numQ v ≤ 30 := by
 unfold numQ
 have a1 : -30 ≤ v % 61 - 30 := by omega
 have a2 : v % 61 - 30 ≤ 30 := by omega
 have b1 : 1 ≤ 1 + v.tdiv 61 % 4 := by omega
 generalize v % 61 - 30 = a at *
 generalize 1 + v.tdiv 61 % 4 = b at *
 have b2 : (1 : Rat) ≤ (b : Rat) := by
  rw [show (1 : Rat) = ((1 : Int) : Rat) from rfl]
  exact Rat.intCast_le_intCast.2 b1
 have a3 : ((-30 : Int) : Rat) ≤ (a : Rat) := Rat.intCast_le_intCast.2 a1
 have a4 : (a : Rat) ≤ ((30 : Int) : Rat) := Rat.intCast_le_intCast.2 a2
 have e30 : ((30 : Int) : Rat) = 30 := rfl
 have e31 : ((-30 : Int) : Rat) = -30 := rfl
 rw [e31] at a3
 rw [e30] at a4
 rw [Rat.divInt_eq_div]
 have hb : (0 : Rat) < (b : Rat) := by grind
 have e : (a : Rat) / (b : Rat) * (b : Rat) = (a : Rat) := qAp (Rat.ne_of_gt hb)
 generalize (a : Rat) / (b : Rat) = q at *
 constructor
 ·refine Rat.not_lt.1 fun h => ?_
  have := qAo (a := 1) (b := (b : Rat)) (c := -q) (d := -q) b2 Rat.le_refl (by grind) (by grind)
  grind
 ·refine Rat.not_lt.1 fun h => ?_
  have := qAo (a := 1) (b := (b : Rat)) (c := q) (d := q) b2 Rat.le_refl (by grind) (by grind)
  grind
theorem polOk_small {p : List Rat} (op : ∀ q ∈ p, okQ 2 q) (lp : p.length ≤ 6) : PolOk p := ⟨by omega, fun x hx => (op x hx).mono (by decide), fun h0 => ctr_small (qAk p) h0 (ht2 op lp) (Nat.le_trans (trim_len p) lp)⟩
end Go.Proofs.YtejigedigmagdaaGreat
namespace Go.Proofs.YtejigedigmagdaaGreat
open Go.Vw
attribute [local irreducible] awp awpL awpR awpAC
theorem chX_small : ChX smallP := ⟨chOk_small, fun p tp h0 x => by
 have hl := lead_ne tp h0
 have hp := ab_pos hl
 unfold smallP
 rw [qAx, show absQ (lead p) = ab (lead p) from rfl, ← Rat.mul_assoc, Rat.mul_comm (ab (lead p)), qAp (Rat.ne_of_gt hp), Rat.one_mul]⟩
theorem deep_of {p : List Rat} (p0 : qAd p ≠ []) {H : Nat} (hQ : HtP H (ctrQ (qAd p))) (lQ : (ctrQ (qAd p)).length ≤ 6) (hB : (H + 3) * 3 ^ (ctrQ (qAd p)).length ≤ 25000) (hH : H ≤ 400) : Deep (cfn p) 463000 := by
 have tp := qAk p
 have hg := gcdP_tr tp (qAk (derC (qAd p)))
 have tQ : Tr (ctrQ (qAd p)) := (divP_spec tp hg.1 (hg.2 (.inl p0)).1).1
 have hb : Bez (ctrQ (qAd p)) (derP (ctrQ (qAd p))) := quot_bez tp p0
 have hE := ht_der hQ (by omega)
 refine ⟨⟨fun a b h => ?_, fun a b h => cntF_nonneg tp p0 a b h, fun a m b h1 h2 => cntF_add _ a m b h1 h2⟩, fun a b => ?_, fun a b h1 h2 h3 h4 => ?_⟩
 ·unfold cfn cntF
  exact if_neg h
 ·unfold cfn cntF
  have hl := chain_len smallP ((ctrQ (qAd p)).length + 1) (ctrQ (qAd p)) (derP (ctrQ (qAd p)))
  have b1 := chg_bd ((ctr (qAd p)).map fun f => sgQ (qAa f a)) 0
  have b2 := chg_bd ((ctr (qAd p)).map fun f => sgQ (qAa f b)) 0
  rw [List.length_map] at b1 b2
  have hl2 : (ctr (qAd p)).length ≤ 7 := by unfold ctr; omega
  split
  ·unfold vrsF; omega
  ·decide
 ·have := depth chS_small chX_small tQ hb hQ hE lQ hB hH (n := (ctrQ (qAd p)).length + 1) (Nat.lt_succ_self _) h1 h2 h3 h4
  show cntF (ctr (qAd p)) a b ≤ 1
  unfold cntF
  rw [if_pos h3, vrsF_eq, vrsF_eq]
  exact this
theorem num_12 (v : Int) : ∃ A : Int, A.natAbs ≤ 360 ∧ numQ v = Rat.divInt A 12 := by
 unfold numQ
 have a1 : -30 ≤ v % 61 - 30 := by omega
 have a2 : v % 61 - 30 ≤ 30 := by omega
 have b1 : 0 ≤ v.tdiv 61 % 4 ∧ v.tdiv 61 % 4 ≤ 3 := by omega
 generalize v % 61 - 30 = a at *
 generalize v.tdiv 61 % 4 = b at *
 have cs : b = 0 ∨ b = 1 ∨ b = 2 ∨ b = 3 := by omega
 rcases cs with rfl | rfl | rfl | rfl
 ·exact ⟨a * 12, by omega, by show Rat.divInt a 1 = Rat.divInt (a * 12) (1 * 12); rw [Rat.divInt_mul_right (by decide)]⟩
 ·exact ⟨a * 6, by omega, by show Rat.divInt a (1 + 1) = Rat.divInt (a * 6) ((1 + 1) * 6); rw [Rat.divInt_mul_right (by decide)]⟩
 ·exact ⟨a * 4, by omega, by show Rat.divInt a (1 + 2) = Rat.divInt (a * 4) ((1 + 2) * 4); rw [Rat.divInt_mul_right (by decide)]⟩
 ·exact ⟨a * 3, by omega, by show Rat.divInt a (1 + 3) = Rat.divInt (a * 3) ((1 + 3) * 3); rw [Rat.divInt_mul_right (by decide)]⟩
end Go.Proofs.YtejigedigmagdaaGreat
namespace Go.Vw
def psiV (d sq : Rat) : Rat := d * ((1 - sq * (d * d)) * (1 - sq * (d * d)))
def wP (v sq : Rat) : List Rat := subC [1] (smul sq (mulC [v, -1] [v, -1]))
def psiP (v sq : Rat) : List Rat := qAd (mulC [v, -1] (mulC (wP v sq) (wP v sq)))
theorem ev_res (v t : Rat) : qAa [v, -1] t = v - t := by simp only [qAa]; grind
theorem ev_wP (v sq t : Rat) : qAa (wP v sq) t = 1 - sq * ((v - t) * (v - t)) := by
 unfold wP
 rw [eval_sub, qAx, qAe, ev_res, ev_one]
theorem ev_psiP (v sq t : Rat) : qAa (psiP v sq) t = psiV (v - t) sq := by
 unfold psiP psiV
 rw [qAr, qAe, qAe, ev_res, ev_wP]
def sumV : List Rat -> Rat -> Rat -> Rat
 | [], _, _ => 0
 | v :: l, sq, t => psiV (v - t) sq + sumV l sq t
def sumC : List Rat -> Rat -> List Rat
 | [], _ => []
 | v :: l, sq => addC (psiP v sq) (sumC l sq)
theorem ev_sumC (sq t : Rat) : ∀ l : List Rat, qAa (sumC l sq) t = sumV l sq t
 | [] => rfl
 | v :: l => by rw [sumC, eval_add, ev_psiP, ev_sumC sq t l]; rfl
def eqP (l : List Rat) (sq : Rat) : List Rat := qAd (sumC l sq)
theorem ev_eqP (l : List Rat) (sq t : Rat) : qAa (eqP l sq) t = sumV l sq t := by unfold eqP; rw [qAr, ev_sumC]
theorem tr_eqP (l : List Rat) (sq : Rat) : Tr (eqP l sq) := qAk _
theorem sumV_snoc (sq t v : Rat) : ∀ l : List Rat, sumV (l ++ [v]) sq t = sumV l sq t + psiV (v - t) sq
 | [] => by show psiV (v - t) sq + 0 = 0 + psiV (v - t) sq; grind
 | u :: l => by
  have := sumV_snoc sq t v l
  show psiV (u - t) sq + sumV (l ++ [v]) sq t = psiV (u - t) sq + sumV l sq t + psiV (v - t) sq
  rw [this]; grind
theorem eqP_of {p l : List Rat} {sq : Rat} (tp : Tr p) (h : ∀ t, qAa p t = sumV l sq t) : p = eqP l sq := tp.ext (tr_eqP l sq) (qAt fun t => by rw [h, ev_eqP])
theorem cf_psi (v sq : Rat) (i : Nat) (h : 6 ≤ i) : cf (psiP v sq) i = 0 := by
 unfold psiP
 rw [cf_trim]
 have w : ∀ j, 2 < j -> cf (wP v sq) j = 0 := fun j hj => by
  unfold wP
  rw [cf_sub, qAy, cf_ge (p := [1]) (by show 1 ≤ j; omega)]
  have := (mul_high [v, -1] [v, -1] 1 1 (fun i hi => cf_ge (by show 2 ≤ i; omega)) (fun i hi => cf_ge (by show 2 ≤ i; omega))).2 j (by omega)
  rw [this]; grind
 have ww := (mul_high (wP v sq) (wP v sq) 2 2 w w).2
 exact (mul_high [v, -1] (mulC (wP v sq) (wP v sq)) 1 4 (fun i hi => cf_ge (by show 2 ≤ i; omega)) (fun i hi => ww i (by omega))).2 i (by omega)
theorem cf_sumC (sq : Rat) : ∀ (l : List Rat) (i : Nat), 6 ≤ i -> cf (sumC l sq) i = 0
 | [], i, _ => rfl
 | v :: l, i, h => by rw [sumC, cf_add, cf_psi v sq i h, cf_sumC sq l i h, Rat.add_zero]
theorem eqP_len (l : List Rat) (sq : Rat) : (eqP l sq).length ≤ 6 := (tr_eqP l sq).len_lt fun i hi => by unfold eqP; rw [cf_trim]; exact cf_sumC sq l i hi
theorem ht_res {k : Nat} {v : Rat} (hk : 1 < k) (h : okQ k v) : HtP k [v, -1] := by
  have e : Rat.divInt v.num v.den = v := Rat.num_divInt_den v
  have d0 := v.den_nz
  refine ⟨(v.den : Int), fun i => match i with | 0 => v.num | 1 => -(v.den : Int) | _ + 2 => 0, by omega, by rw [Int.natAbs_natCast]; exact h.2, fun i => ?_⟩
  match i with
  | 0 => exact ⟨h.1, e.symm⟩
  | 1 => exact ⟨by show ln (-(v.den : Int)).natAbs < k; rw [Int.natAbs_neg, Int.natAbs_natCast]; exact h.2, by
      show (-1 : Rat) = Rat.divInt (-(v.den : Int)) (v.den : Int)
      rw [← Rat.neg_divInt, Rat.divInt_self' (by omega)]⟩
  | i + 2 => exact ⟨by show ln 0 < k; rw [ln_zero]; omega, (Rat.zero_divInt _).symm⟩
theorem ht_wP {k m : Nat} {v sq : Rat} (hk : 1 < k) (h : okQ k v) (hs : okQ m sq) : HtP (4 + 2 * k + m) (wP v sq) := by
 have r := ht_res hk h
 have h1 : HtP 2 [1] := ⟨1, fun i => match i with | 0 => 1 | _ + 1 => 0, by decide, by show ln 1 < 2; rw [ln_one]; decide, fun i => match i with
  | 0 => ⟨by show ln 1 < 2; rw [ln_one]; decide, by decide +kernel⟩
  | i + 1 => ⟨by show ln 0 < 2; rw [ln_zero]; decide, (Rat.zero_divInt 1).symm⟩⟩
 have := h1.sub ((r.mul r).smul hs)
 exact this.mono (by simp only [List.length_cons, List.length_nil]; omega)
theorem ht_psi {k m : Nat} {v sq : Rat} (hk : 1 < k) (h : okQ k v) (hs : okQ m sq) : HtP (20 + 5 * k + 2 * m) (psiP v sq) := by
 have r := ht_res hk h
 have w := ht_wP hk h hs
 have lw : (qAd (wP v sq)).length ≤ 3 := (qAk _).len_lt fun j hj => by
  rw [cf_trim]
  unfold wP
  rw [cf_sub, qAy, cf_ge (p := [1]) (by show 1 ≤ j; omega)]
  have := (mul_high [v, -1] [v, -1] 1 1 (fun i hi => cf_ge (by show 2 ≤ i; omega)) (fun i hi => cf_ge (by show 2 ≤ i; omega))).2 j (by omega)
  rw [this]; grind
 have ww := w.trim.mul w.trim
 have e : Eqv (mulC (qAd (wP v sq)) (qAd (wP v sq))) (mulC (wP v sq) (wP v sq)) := (mul_eqv_l _ (trim_eqv _)).trans (mul_eqv_r _ (trim_eqv _))
 have := r.mul (ww.eqv e.symm)
 exact this.trim.mono (by simp only [List.length_cons, List.length_nil]; omega)
theorem ht_eqP {k m : Nat} {sq : Rat} (hk : 1 < k) (hs : okQ m sq) : ∀ {l : List Rat}, (∀ v ∈ l, okQ k v) -> HtP (2 + l.length * (20 + 5 * k + 2 * m)) (sumC l sq)
 | [], _ => HtP.nil.mono (by omega)
 | v :: l, h => by
  have a := ht_psi hk (h v List.mem_cons_self) hs
  have b := ht_eqP hk hs (l := l) fun u hu => h u (List.mem_cons_of_mem _ hu)
  refine (a.add b).mono ?_
  rw [List.length_cons, Nat.add_mul]
  omega
theorem lin_tr (s : Rat) : Tr [-s, 1] ∧ ([-s, 1] : List Rat) ≠ [] := ⟨tr_lin s, by simp⟩
theorem rem_lin {p : List Rat} (tp : Tr p) (s : Rat) : ((divP p [-s, 1]).2 = [] ↔ qAa p s = 0) ∧ ∀ x, qAa p x = qAa (divP p [-s, 1]).1 x * (x - s) + qAa (divP p [-s, 1]).2 x := by
 obtain ⟨t1, t2⟩ := lin_tr s
 obtain ⟨h1, h2, h3, h4⟩ := divP_spec tp t1 t2
 have ev : ∀ x, qAa p x = qAa (divP p [-s, 1]).1 x * (x - s) + qAa (divP p [-s, 1]).2 x := fun x => by
  have := eval_ext x h4
  rw [eval_add, qAe, ev_lin] at this
  exact this.symm
 refine ⟨⟨fun e => ?_, fun e => ?_⟩, ev⟩
 ·rw [ev s, e, Rat.sub_self, Rat.mul_zero, Rat.zero_add]; rfl
 ·refine Classical.byContradiction fun hn => ?_
  have l1 : (divP p [-s, 1]).2.length = 1 := by
   have := ne_len hn
   simp only [List.length_cons, List.length_nil] at h3
   omega
  have e2 := ev s
  rw [Rat.sub_self, Rat.mul_zero, Rat.zero_add, e] at e2
  match hr : (divP p [-s, 1]).2, l1 with
  | [c], _ =>
   rw [hr] at e2 h2
   have c0 : c ≠ 0 := fun e3 => h2 (by simp) (by rw [e3]; rfl)
   exact c0 (by simp only [qAa] at e2; grind)
def woP : Nat -> List Rat -> Rat -> List Rat
 | 0, p, _ => p
 | n + 1, p, s => if (divP p [-s, 1]).2 = [] then woP n (divP p [-s, 1]).1 s else p
theorem quo_lin {p : List Rat} (tp : Tr p) (p0 : p ≠ []) {s : Rat} (h : (divP p [-s, 1]).2 = []) : Tr (divP p [-s, 1]).1 ∧ (divP p [-s, 1]).1 ≠ [] ∧ (divP p [-s, 1]).1.length + 1 = p.length := by
  obtain ⟨t1, t2⟩ := lin_tr s
  obtain ⟨h1, h2, h3, h4⟩ := divP_spec tp t1 t2
  obtain ⟨_, ev⟩ := rem_lin tp s
  have q0 : (divP p [-s, 1]).1 ≠ [] := fun e => by
    obtain ⟨x, hx⟩ := ev_ne tp p0
    rw [ev x, e, h] at hx
    exact hx (by have e0 : qAa [] x = 0 := rfl
                 rw [e0]; grind)
  have e1 : mulT (divP p [-s, 1]).1 [-s, 1] = p := (tr_mulT _ _).ext tp fun i => by
    unfold mulT
    rw [cf_trim]
    exact qAt (fun x => by rw [qAe, ev_lin, ev x, h]; have e0 : qAa [] x = 0 := rfl
                           rw [e0, Rat.add_zero]) i
  have l := (mulT_len h1 t1 q0 t2).1
  rw [e1] at l
  exact ⟨h1, q0, by simp only [List.length_cons, List.length_nil] at l; have := ne_len q0; omega⟩
theorem woP_spec : ∀ (n : Nat) {p : List Rat} {s : Rat}, Tr p -> p ≠ [] -> p.length ≤ n -> Tr (woP n p s) ∧ woP n p s ≠ [] ∧ qAa (woP n p s) s ≠ 0 ∧ (woP n p s).length ≤ p.length ∧ ∃ j : Nat, ∀ x, qAa p x = (x - s) ^ j * qAa (woP n p s) x
 | 0, p, s, tp, p0, hl => absurd (List.length_eq_zero_iff.1 (by omega)) p0
 | n + 1, p, s, tp, p0, hl => by
  obtain ⟨hr, ev⟩ := rem_lin tp s
  unfold woP
  split
  ·rename_i h
   obtain ⟨q1, q2, q3⟩ := quo_lin tp p0 h
   obtain ⟨a1, a2, a3, a4, j, a5⟩ := woP_spec n (s := s) q1 q2 (by omega)
   refine ⟨a1, a2, a3, by omega, j + 1, fun x => ?_⟩
   rw [ev x, h, a5 x, Rat.pow_succ]
   have e0 : qAa [] x = 0 := rfl
   rw [e0]; grind
  ·rename_i h
   exact ⟨tp, p0, fun e => h (hr.2 e), Nat.le_refl _, 0, fun x => by rw [Rat.pow_zero, Rat.one_mul]⟩
def flatF (r : Rat) : Rat -> List Rat -> List I2
 | _, [] => []
 | a, b :: l => if a + r ≤ b - r then (a + r, b - r) :: flatF r b l else flatF r b l
def flatL (r : Rat) : List Rat -> List I2
 | [] => []
 | a :: l => flatF r a l
theorem flatF_snoc (r : Rat) : ∀ (l : List Rat) (a b : Rat), flatF r a (l ++ [b]) = flatF r a l ++ (if (a :: l).getLastD 0 + r ≤ b - r then [((a :: l).getLastD 0 + r, b - r)] else [])
 | [], a, b => by simp only [List.nil_append, flatF, List.getLastD_cons, List.getLastD_nil]
 | c :: l, a, b => by
  have e : (a :: c :: l).getLastD 0 = (c :: l).getLastD 0 := by simp [List.getLastD_cons]
  rw [e, List.cons_append]
  simp only [flatF]
  split
  ·rw [flatF_snoc r l c b, List.cons_append]
  ·rw [flatF_snoc r l c b]
def actF (x : List Rat) (r t : Rat) : List Rat := x.filter fun v => decide (absQ (v - t) < r)
theorem absQ_lt {d r : Rat} : absQ d < r ↔ -r < d ∧ d < r := by
 unfold absQ
 split
 ·constructor
  ·intro h; constructor <;> grind
  ·intro h; grind
 ·constructor
  ·intro h; constructor <;> grind
  ·intro h; grind
theorem actF_cons (v : Rat) (x : List Rat) (r t : Rat) : actF (v :: x) r t = if absQ (v - t) < r then v :: actF x r t else actF x r t := by
 unfold actF
 rw [List.filter_cons]
 by_cases h : absQ (v - t) < r
 ·rw [if_pos h, decide_eq_true h, if_pos rfl]
 ·rw [if_neg h, decide_eq_false h]; rfl
theorem psi_edge {d r sq : Rat} (hs : sq * (r * r) = 1) (h : d = r ∨ d = -r) : psiV d sq = 0 := by
 unfold psiV
 have : 1 - sq * (d * d) = 0 := by
  rcases h with rfl | rfl
  ·rw [hs]; grind
  ·have : -r * -r = r * r := by grind
   rw [this, hs]; grind
 rw [this]; grind
theorem sum_piece {r sq a b t m : Rat} (hr : 0 < r) (hs : sq * (r * r) = 1) (h1 : a ≤ t) (h2 : t ≤ b) (m1 : a < m) (m2 : m < b) : ∀ {x : List Rat}, (∀ v ∈ x, (v - r ≤ a ∨ b ≤ v - r) ∧ (v + r ≤ a ∨ b ≤ v + r)) -> sumV (actF x r t) sq t = sumV (actF x r m) sq t
 | [], _ => rfl
 | v :: x, h => by
  have ih := sum_piece hr hs h1 h2 m1 m2 (x := x) fun u hu => h u (List.mem_cons_of_mem _ hu)
  obtain ⟨c1, c2⟩ := h v List.mem_cons_self
  rw [actF_cons, actF_cons]
  rcases c1 with d1 | d1
  ·rcases c2 with d2 | d2
   ·rw [if_neg (fun e => by have := absQ_lt.1 e; grind), if_neg (fun e => by have := absQ_lt.1 e; grind)]
    exact ih
   ·rw [if_pos (show absQ (v - m) < r from absQ_lt.2 ⟨by grind, by grind⟩)]
    by_cases e : absQ (v - t) < r
    ·rw [if_pos e]
     show psiV (v - t) sq + _ = psiV (v - t) sq + _
     rw [ih]
    ·rw [if_neg e]
     have hz : psiV (v - t) sq = 0 := by
      refine psi_edge hs ?_
      have : ¬ (-r < v - t ∧ v - t < r) := fun k => e (absQ_lt.2 k)
      by_cases k : v - t < r
      ·right; grind
      ·left; grind
     show _ = psiV (v - t) sq + _
     rw [hz, Rat.zero_add]
     exact ih
  ·rw [if_neg (fun e => by have := absQ_lt.1 e; grind), if_neg (fun e => by have := absQ_lt.1 e; grind)]
   exact ih
theorem Brk.piece {x q : List Rat} {r sq : Rat} (hr : 0 < r) (hs : sq * (r * r) = 1) (h : Brk x r q) {i : Nat} (hi : i + 1 < q.length) {t : Rat} (h1 : q[i] ≤ t) (h2 : t ≤ q[i + 1]) : sumV (actF x r t) sq t = qAa (eqP (actF x r ((q[i] + q[i + 1]) / 2)) sq) t := by
 rw [ev_eqP]
 have p := List.pairwise_iff_getElem.1 h.asc i (i + 1) (by omega) hi (by omega)
 have e := half_eq (q[i] + q[i + 1])
 exact sum_piece hr hs h1 h2 (by grind) (by grind) fun v hv => ⟨nbr h.asc hi (h.lo v hv), nbr h.asc hi (h.hi v hv)⟩
theorem cf_psi5 (v sq : Rat) : cf (psiP v sq) 5 = -(sq * sq) := by
 unfold psiP
 rw [cf_trim]
 have w : ∀ j, 2 < j -> cf (wP v sq) j = 0 := fun j hj => by
  unfold wP
  rw [cf_sub, qAy, cf_ge (p := [1]) (by show 1 ≤ j; omega)]
  have := (mul_high [v, -1] [v, -1] 1 1 (fun i hi => cf_ge (by show 2 ≤ i; omega)) (fun i hi => cf_ge (by show 2 ≤ i; omega))).2 j (by omega)
  rw [this]; grind
 have w2 : cf (wP v sq) 2 = -sq := by
  unfold wP
  rw [cf_sub, qAy, cf_ge (p := [1]) (by decide)]
  have := (mul_high [v, -1] [v, -1] 1 1 (fun i hi => cf_ge (by show 2 ≤ i; omega)) (fun i hi => cf_ge (by show 2 ≤ i; omega))).1
  rw [show (2 : Nat) = 1 + 1 from rfl, this]
  show 0 - sq * (-1 * -1) = -sq
  grind
 have ww := mul_high (wP v sq) (wP v sq) 2 2 w w
 have := (mul_high [v, -1] (mulC (wP v sq) (wP v sq)) 1 4 (fun i hi => cf_ge (by show 2 ≤ i; omega)) (fun i hi => ww.2 i (by omega))).1
 rw [show (5 : Nat) = 1 + 4 from rfl, this, show (4 : Nat) = 2 + 2 from rfl, ww.1, w2]
 show -1 * (-sq * -sq) = _
 grind
theorem cf_sum5 (sq : Rat) : ∀ l : List Rat, cf (sumC l sq) 5 = -(((l.length : Nat) : Rat) * (sq * sq))
 | [] => by show (0 : Rat) = -(((0 : Nat) : Rat) * (sq * sq)); have : ((0 : Nat) : Rat) = 0 := rfl; rw [this]; grind
 | v :: l => by
  have e : (((v :: l).length : Nat) : Rat) = ((l.length : Nat) : Rat) + 1 := by rw [List.length_cons, Rat.natCast_add]; rfl
  rw [sumC, cf_add, cf_psi5, cf_sum5 sq l, e]; grind
theorem eqP_ne {l : List Rat} {sq : Rat} (h : l ≠ []) (hs : sq ≠ 0) : (eqP l sq).length = 6 ∧ eqP l sq ≠ [] := by
 have c5 : cf (eqP l sq) 5 ≠ 0 := by
  unfold eqP
  rw [cf_trim, cf_sum5]
  have hn : ((l.length : Nat) : Rat) ≠ 0 := fun e => by
   have e0 : ((l.length : Nat) : Rat) = ((0 : Nat) : Rat) := e
   exact h (List.length_eq_zero_iff.1 (Rat.natCast_inj.1 e0))
  intro e
  have e2 : ((l.length : Nat) : Rat) * (sq * sq) = 0 := by grind
  have e3 := mul0 e2 hn
  exact hs (mul0 e3 hs)
 have h1 := eqP_len l sq
 have h2 : 5 < (eqP l sq).length := Nat.lt_of_not_le fun e => c5 (cf_ge e)
 exact ⟨by omega, fun e => by rw [e] at h2; simp at h2⟩
end Go.Vw
