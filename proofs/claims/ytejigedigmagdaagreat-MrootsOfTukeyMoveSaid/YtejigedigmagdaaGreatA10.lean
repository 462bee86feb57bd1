/-
 Contracts of functions of the program, and the layer that they are walked with: Y05 N15 Y06 Y07 Y08 Y09 Y02 Y03 Y04 Y10 Y11 Y12 N13 N14 N16 N17 N18 Y13 C10 Y14 S60 S61 N19 Y15 Z02 Z03 Z04 Z07 Y16 VMk S63 S64 Y17 Y18 Y19 Y20 Y21 Y22 Y23 Y24 Y25 Y26 Y27 Y28 Y29 Y30. Conditions: as each says.
-/
import Derived.Test.YtejigedigmagdaaGreatA09
set_option linter.unnecessarySimpa false
set_option linter.unusedVariables false
set_option linter.unusedSimpArgs false
set_option maxHeartbeats 8000000
namespace Go.Proofs.YtejigedigmagdaaGreat
open Go.Vw
attribute [local irreducible] awp awpL awpR
theorem polynomial_Trim (l : List R3) (hn : l.length ≤ 1000) (hl : ∀ r ∈ l, RatOk r 10000000) : Ret Tryz.prog 149 [rsD l] (· = qsD (trimP (l.map rv))) :=
 (polynomial_TrimB l hn hl).toRet (ds := [rsD l]) true rfl rfl
theorem polynomial_Degree (l : List R3) (hn : l.length ≤ 1000) (hl : ∀ r ∈ l, RatOk r 10000000) : Ret Tryz.prog 152 [rsD l] (· = .int .i64 (((trimP (l.map rv)).length : Int) - 1)) := by
 have ht := polynomial_Trim l hn hl
 have hk := Nat.le_trans (trim_len (l.map rv)) (by rw [List.length_map]; exact hn)
 generalize trimP (l.map rv) = p at *
 clear hl
 refine ret_of_awp tab Tryz.func152 rfl rfl (lblz rfl) (fun w0 F0 => ?_)
 repeat' (first | refine wG ?_ | refine wC ht ?_ | refine wS ?_ ?_ <;> intro _ | refine finG ?_)
 rfl
theorem combine_at (l : List R3) (i : Nat) (hl : l.length ≤ 1000) (hi : i ≤ 2000) : Ret Tryz.prog 183 [rsD l, .int .i64 i] (· = rD (l.getD i r0)) := by
 by_cases h : i < l.length
 ·refine ret_of_awp tab Tryz.func183 rfl rfl (lblz rfl) (fun w0 F0 => ?_)
  repeat' (first | refine wG ?_ | refine wS ?_ ?_ <;> intro _ | refine finG ?_)
  rfl
 ·rw [show l.getD i r0 = r0 by rw [List.getD_eq_getElem?_getD, List.getElem?_eq_none (by omega)]; rfl]
  refine ret_of_awp tab Tryz.func183 rfl rfl (lblz rfl) (fun w0 F0 => ?_)
  repeat' (first | refine wG ?_ | refine wS ?_ ?_ <;> intro _ | (show retPost _ _ _ _ _; first | refine finF true rfl rfl sc ?_ | refine finF false rfl rfl sc ?_ | refine finC false rfl rfl sc sc ?_ | refine finN rfl rfl sc ?_ | refine finL true rfl rfl sc rfl (LeR.cons rfl leL LeR.nil) ?_ | refine finA true rfl rfl sc ?_ | refine finA false rfl rfl sc ?_ | refine finE true rfl rfl sc ?_ | refine finE false rfl rfl sc ?_))
  exact leL
def outL (g : Nat → Rat) (m i : Nat) : List R3 := (List.range i).map (fun j => rq (g j)) ++ List.replicate (m - i) r0
theorem outL_len {g : Nat → Rat} {m i : Nat} (h : i ≤ m) : (outL g m i).length = m := by unfold outL; simp; omega
theorem outL_set {g : Nat → Rat} {m i : Nat} (h : i < m) : (outL g m i).set i (rq (g i)) = outL g m (i + 1) := by
 unfold outL
 rw [List.set_append_right _ _ (by simp), show m - i = (m - (i + 1)) + 1 by omega, List.replicate_succ, List.length_map, List.length_range, Nat.sub_self, List.set_cons_zero, List.range_succ, List.map_append, List.append_assoc]
 rfl
theorem outL_rv {g : Nat → Rat} {m : Nat} : (outL g m m).map rv = (List.range m).map g := by
 unfold outL
 rw [Nat.sub_self, List.replicate_zero, List.append_nil, List.map_map]
 exact List.map_congr_left fun j _ => rv_rq _
theorem outL_ok {g : Nat → Rat} {m k : Nat} (h : ∀ i, i < m → okQ k (g i)) : ∀ r ∈ outL g m m, RatOk r k := by
 unfold outL
 rw [Nat.sub_self, List.replicate_zero, List.append_nil]
 intro r hr
 obtain ⟨j, hj, rfl⟩ := List.mem_map.1 hr
 exact ok_rq (h j (List.mem_range.1 hj))
theorem polynomial_combine (fid : FuncId) (g : Nat → Rat) (p q : List R3) (hp : p.length ≤ 500) (hq : q.length ≤ 500) (hf : ∀ i, i < max p.length q.length → Ret Tryz.prog fid [rD (p.getD i r0), rD (q.getD i r0)] (· = qD (g i))) (ho : ∀ i, i < max p.length q.length → okQ 10000000 (g i)) : Ret Tryz.prog 150 [rsD p, rsD q, .fn fid []] (· = qsD (trimP ((List.range (max p.length q.length)).map g))) := by
 obtain ⟨m, hm⟩ : ∃ m, max p.length q.length = m := ⟨_, rfl⟩
 rw [hm] at hf ho ⊢
 have hm2 : m ≤ 500 := by omega
 have hmz : (max (p.length : Int) (q.length : Int)).toNat = m := by omega
 refine ret_of_awp tab Tryz.func150 rfl rfl (lblz rfl) (fun w0 F0 => ?_)
 repeat' (first | refine wG ?_ | refine stepMake (mm := true) (en := rC) (z := r0) tt rfl rfl rfl rfl rfl rfl rfl rfl rfl rfl rfl rfl leL sc sc ?_ | refine stepMake (mm := false) (en := rC) (z := r0) tt rfl rfl rfl rfl rfl rfl rfl rfl rfl rfl rfl rfl leL sc sc ?_ | refine wS ?_ ?_ <;> intro _ | refine finG ?_)
 refine awp_loop1 (fun (i : Nat) => ([(0, .d (rsD p)), (1, .d (rsD q)), (2, .d (.fn fid [])), (7, .own 15 0 m 27 3), (8, .d (.fn 183 [])), (17, .d (.int .i64 m)), (18, .d (.int .i64 i))], [(15, .data 27 3 rC r0 (outL g m i))])) (fun i => i ≤ m) (fun i => m - i) 0 (by omega) ⟨rfl, rfl, rfl, ownEq hmz, rfl, iv (by omega), rfl, rfl⟩ ⟨blkEq (by rw [hmz]; unfold outL; simp), trivial⟩ (fun i hi => ?_)
 have hol := outL_len (g := g) hi
 by_cases h3 : i < m
 ·have c1 := combine_at p i (by omega) (by omega)
  have c2 := combine_at q i (by omega) (by omega)
  have c3 := hf i h3
  have es := outL_set (g := g) h3
  generalize outL g m i = L at *
  generalize g i = y at *
  clear hf ho
  repeat' (first | refine wG ?_ | refine wC c1 ?_ | refine wC c2 ?_ | refine wC c3 ?_ | refine wS ?_ ?_ <;> intro _ | refine finG ?_)
  exact ⟨i + 1, by omega, by omega, ⟨rfl, rfl, rfl, rfl, rfl, rfl, rfl, rfl⟩, blkEq es, trivial⟩
 ·have e : i = m := by omega
  subst e
  have ht := polynomial_Trim (outL g i i) (by omega) (outL_ok ho)
  rw [outL_rv] at ht
  generalize outL g i i = L at *
  generalize (List.range i).map g = R at *
  clear hf ho
  repeat' (first | refine wG ?_ | refine wC ht ?_ | refine wS ?_ ?_ <;> intro _ | refine finG ?_)
  rfl
theorem rational_FromIntQ (v : Int) (h1 : -9223372036854775808 ≤ v) (h2 : v < 9223372036854775808) : Ret Tryz.prog 52 [.int .i64 v] (· = qD (v : Rat)) := by
 have := rational_FromInt v h1 h2
 rw [← rq_int] at this
 exact this
theorem interval_number (x : R3) (h : RatOk x 10000000) : Ret Tryz.prog 137 [rD x] (· = qD (rv x)) := by
 have a := rational_Add x r0 h (ok_r0 (by decide))
 rw [rv_r0, Rat.add_zero] at a
 refine ret_of_awp tab Tryz.func137 rfl rfl (lblz rfl) (fun w0 F0 => ?_)
 repeat' (first | refine wG ?_ | refine wC a ?_ | refine wS ?_ ?_ <;> intro _ | refine finG ?_)
 rfl
theorem interval_numberQ (x : Rat) (h : okQ 10000000 x) : Ret Tryz.prog 137 [qD x] (· = qD x) := by
 have := interval_number (rq x) (ok_rq h)
 rw [rv_rq] at this
 exact this
theorem interval_value (a b : R3) (ha : RatOk a 500000) (hb : RatOk b 500000) : Ret Tryz.prog 87 [iD a b] (· = iQ (takeI (rv a) (rv b))) := by
 have h1 := interval_number a (ha.up (by decide))
 have h2 := interval_number b (hb.up (by decide))
 have hc := rational_CompareQ (rv a) (rv b) ((okQ_rv ha (by decide)).mono (by decide)) ((okQ_rv hb (by decide)).mono (by decide))
 have hp := cmpQ_pos (rv a) (rv b)
 generalize rv a = x at *
 generalize rv b = y at *
 obtain ⟨c, hcc⟩ : ∃ c, cmpQ x y = c := ⟨_, rfl⟩
 rw [hcc] at hc hp
 unfold takeI
 by_cases h : y < x
 ·have hk := hp.2 h
  clear hp
  rw [if_pos h]
  unfold iQ
  rw [rq_zero]
  refine ret_of_awp tab Tryz.func87 rfl rfl (lblz rfl) (fun w0 F0 => ?_)
  repeat' (first | refine wG ?_ | refine wC h1 ?_ | refine wC h2 ?_ | refine wC hc ?_ | refine rg 1 5 ?_ | refine wS ?_ ?_ <;> intro _ | (show retPost _ _ _ _ _; first | refine finF true rfl rfl sc ?_ | refine finF false rfl rfl sc ?_ | refine finC false rfl rfl sc sc ?_ | refine finN rfl rfl sc ?_ | refine finL true rfl rfl sc rfl (LeR.cons rfl leL LeR.nil) ?_ | refine finA true rfl rfl sc ?_ | refine finA false rfl rfl sc ?_ | refine finE true rfl rfl sc ?_ | refine finE false rfl rfl sc ?_))
  exact leL
 ·have hk := mt hp.1 h
  clear hp
  rw [if_neg h]
  refine ret_of_awp tab Tryz.func87 rfl rfl (lblz rfl) (fun w0 F0 => ?_)
  repeat' (first | refine wG ?_ | refine wC h1 ?_ | refine wC h2 ?_ | refine wC hc ?_ | refine rg 1 5 ?_ | refine wS ?_ ?_ <;> intro _ | refine finG ?_)
  rfl
theorem interval_Make (a b : R3) (ha : RatOk a 500000) (hb : RatOk b 500000) : Ret Tryz.prog 100 [rD a, rD b] (· = if rv b < rv a then .tup [iD r0 r0, .int .i64 1] else .tup [iQ (rv a, rv b), .int .i64 0]) := by
 have h1 := interval_number a (ha.up (by decide))
 have h2 := interval_number b (hb.up (by decide))
 have hc := rational_Compare a b (ha.up (by decide)) (hb.up (by decide))
 have hp := cmpQ_pos (rv a) (rv b)
 obtain ⟨c, hcc⟩ : ∃ c, cmpQ (rv a) (rv b) = c := ⟨_, rfl⟩
 rw [hcc] at hc hp
 by_cases h : rv b < rv a
 ·have hk := hp.2 h
  clear hp
  rw [if_pos h]
  refine ret_of_awp tab Tryz.func100 rfl rfl (lblz rfl) (fun w0 F0 => ?_)
  repeat' (first | refine wG ?_ | refine wC hc ?_ | refine rg 3 3 ?_ | refine wS ?_ ?_ <;> intro _ | refine finTG ?_)
  exact leT
 ·have hk := mt hp.1 h
  clear hp
  rw [if_neg h]
  refine ret_of_awp tab Tryz.func100 rfl rfl (lblz rfl) (fun w0 F0 => ?_)
  repeat' (first | refine wG ?_ | refine wC h1 ?_ | refine wC h2 ?_ | refine wC hc ?_ | refine rg 3 3 ?_ | refine wS ?_ ?_ <;> intro _ | refine finG ?_)
  rfl
theorem interval_Contains (a b v : R3) (ha : RatOk a 500000) (hb : RatOk b 500000) (hv : RatOk v 500000) : Ret Tryz.prog 59 [iD a b, rD v] (· = .bool (containsI (takeI (rv a) (rv b)) (rv v))) := by
 have t1 := interval_value a b ha hb
 have o1 := takeI_ok (okQ_rv ha (by decide)) (okQ_rv hb (by decide)) (by decide)
 generalize takeI (rv a) (rv b) = i at *
 obtain ⟨p, q⟩ := i
 obtain ⟨op, oq⟩ := o1
 have h1 := rational_Compare (rq p) v (ok_rq (op.mono (by decide))) (hv.up (by decide))
 have h2 := rational_Compare v (rq q) (hv.up (by decide)) (ok_rq (oq.mono (by decide)))
 rw [rv_rq] at h1 h2
 have p1 := cmpQ_pos p (rv v)
 have p2 := cmpQ_pos (rv v) q
 obtain ⟨c, hc⟩ : ∃ c, cmpQ p (rv v) = c := ⟨_, rfl⟩
 obtain ⟨d, hd⟩ : ∃ d, cmpQ (rv v) q = d := ⟨_, rfl⟩
 rw [hc] at h1 p1
 rw [hd] at h2 p2
 unfold containsI
 simp only
 rw [show decide (p ≤ rv v) = decide (c ≤ 0) by refine decide_eq_decide.2 ?_; rw [← Rat.not_lt, ← Int.not_lt, p1], show decide (rv v ≤ q) = decide (d ≤ 0) by refine decide_eq_decide.2 ?_; rw [← Rat.not_lt, ← Int.not_lt, p2]]
 clear hc hd p1 p2
 refine ret_of_awp tab Tryz.func59 rfl rfl (lblz rfl) (fun w0 F0 => ?_)
 repeat' (first | refine wG ?_ | refine wC t1 ?_ | refine wC h1 ?_ | refine wC h2 ?_ | refine wS ?_ ?_ <;> intro _ | refine finG ?_)
 all_goals first | rfl | (rename_i hc; simp [hc])
theorem interval_ContainsI (i : I2) (hle : i.1 ≤ i.2) (hi : okI 500000 i) (v : R3) (hv : RatOk v 500000) : Ret Tryz.prog 59 [iQ i, rD v] (· = .bool (containsI i (rv v))) := by
 have := interval_Contains (rq i.1) (rq i.2) v (ok_rq hi.1) (ok_rq hi.2) hv
 rw [rv_rq, rv_rq, takeI_of hle] at this
 exact this
theorem leQR (l : List Rat) : LeD (qsD l) (rsD (l.map rq)) := LeD.sl (by simp) fun i a b ha hb => by
 simp only [List.getElem?_map] at hb
 rw [ha] at hb
 simp only [Option.map_some, Option.some.injEq] at hb
 subst hb
 exact ⟨rfl, LeL.refl _⟩
theorem leRQ (l : List Rat) : LeD (rsD (l.map rq)) (qsD l) := LeD.sl (by simp) fun i a b ha hb => by
 simp only [List.getElem?_map] at ha
 rw [hb] at ha
 simp only [Option.map_some, Option.some.injEq] at ha
 subst ha
 exact ⟨rfl, LeL.refl _⟩
theorem Ret.le {P : Program} {f : FuncId} {ds : List D} {d d' : D} (h : Ret P f ds (· = d)) (e : LeD d d') : Ret P f ds (· = d') := ⟨h.enters, fun F w vs a b c => (h.run F w vs a b c).mono fun _ _ ⟨v, r, F', e1, e2, e3, e4, e5, e6⟩ => ⟨v, d', F', e1, rfl, e3, e4, e5, e _ _ _ (e2 ▸ e6)⟩⟩
theorem cf_rvs (p : List R3) (i : Nat) : rv (p.getD i r0) = cf (p.map rv) i := by
 unfold cf
 by_cases h : i < p.length
 ·simp [List.getD_eq_getElem?_getD, List.getElem?_eq_getElem h]
 ·simp only [List.getD_eq_getElem?_getD, List.getElem?_map, List.getElem?_eq_none (show p.length ≤ i by omega), Option.getD_none, Option.map_none]
  exact rv_r0
theorem map_rv_rqL (l : List Rat) : (l.map rq).map rv = l := by
 rw [List.map_map]
 exact (List.map_congr_left (fun q _ => rv_rq q)).trans (List.map_id l)
theorem cf_range (g : Nat → Rat) (m i : Nat) : cf ((List.range m).map g) i = if i < m then g i else 0 := by
 unfold cf
 split
 ·rename_i h; simp [List.getD_eq_getElem?_getD, h]
 ·rename_i h; simp [List.getD_eq_getElem?_getD, h]
theorem ok_getD {p : List R3} {k : Nat} (h : ∀ r ∈ p, RatOk r k) (hk : 1 < k) (i : Nat) : RatOk (p.getD i r0) k := by
 by_cases hi : i < p.length
 ·exact gMem h hi
 ·rw [List.getD_eq_getElem?_getD, List.getElem?_eq_none (by omega)]
  have := ok_rq (okQ_zero hk)
  rwa [show rq 0 = r0 by decide +kernel] at this
theorem polynomial_Add (p q : List R3) (hp : p.length ≤ 500) (hq : q.length ≤ 500) (kp : ∀ r ∈ p, RatOk r 5000000) (kq : ∀ r ∈ q, RatOk r 5000000) : Ret Tryz.prog 104 [rsD p, rsD q] (· = qsD (trimP (addC (p.map rv) (q.map rv)))) := by
 have hc := polynomial_combine 44 (fun i => rv (p.getD i r0) + rv (q.getD i r0)) p q hp hq (fun i _ => rational_Add _ _ ((ok_getD kp (by decide) i).up (by decide)) ((ok_getD kq (by decide) i).up (by decide))) (fun i _ => (okQ_rv (ok_getD kp (by decide) i) (by decide)).add (okQ_rv (ok_getD kq (by decide) i) (by decide)))
 have e : trimP ((List.range (max p.length q.length)).map fun i => rv (p.getD i r0) + rv (q.getD i r0)) = trimP (addC (p.map rv) (q.map rv)) := trim_ext fun i => by
  rw [cf_range, cf_add, cf_rvs, cf_rvs]
  split
  ·rfl
  ·rw [cf_ge (by rw [List.length_map]; omega), cf_ge (by rw [List.length_map]; omega)]; grind
 rw [e] at hc
 generalize trimP (addC (p.map rv) (q.map rv)) = r at *
 clear kp kq e
 refine ret_of_awp tab Tryz.func104 rfl rfl (lblz rfl) (fun w0 F0 => ?_)
 repeat' (first | refine wG ?_ | refine wC hc ?_ | refine wS ?_ ?_ <;> intro _ | refine finG ?_)
 rfl
theorem polynomial_Sub (p q : List R3) (hp : p.length ≤ 500) (hq : q.length ≤ 500) (kp : ∀ r ∈ p, RatOk r 5000000) (kq : ∀ r ∈ q, RatOk r 5000000) : Ret Tryz.prog 102 [rsD p, rsD q] (· = qsD (trimP (subC (p.map rv) (q.map rv)))) := by
 have hc := polynomial_combine 43 (fun i => rv (p.getD i r0) - rv (q.getD i r0)) p q hp hq (fun i _ => rational_Sub _ _ ((ok_getD kp (by decide) i).up (by decide)) ((ok_getD kq (by decide) i).up (by decide))) (fun i _ => (okQ_rv (ok_getD kp (by decide) i) (by decide)).sub (okQ_rv (ok_getD kq (by decide) i) (by decide)))
 have e : trimP ((List.range (max p.length q.length)).map fun i => rv (p.getD i r0) - rv (q.getD i r0)) = trimP (subC (p.map rv) (q.map rv)) := trim_ext fun i => by
  rw [cf_range, cf_sub, cf_rvs, cf_rvs]
  split
  ·rfl
  ·rw [cf_ge (by rw [List.length_map]; omega), cf_ge (by rw [List.length_map]; omega)]; grind
 rw [e] at hc
 generalize trimP (subC (p.map rv) (q.map rv)) = r at *
 clear kp kq e
 refine ret_of_awp tab Tryz.func102 rfl rfl (lblz rfl) (fun w0 F0 => ?_)
 repeat' (first | refine wG ?_ | refine wC hc ?_ | refine wS ?_ ?_ <;> intro _ | refine finG ?_)
 rfl
theorem smul_getD (c : Rat) (p : List R3) (g : Nat → Rat) (h : ∀ i, g i = c * rv (p.getD i r0)) : (List.range p.length).map g = smul c (p.map rv) := by
 refine List.ext_getElem (by simp [smul]) fun i h1 h2 => ?_
 simp only [List.length_map, List.length_range] at h1
 simp only [List.getElem_map, List.getElem_range, smul, h, List.getD_eq_getElem?_getD, List.getElem?_eq_getElem h1, Option.getD_some]
theorem polynomial_scaled (p : List R3) (y : R3) (hp : p.length ≤ 500) (kp : ∀ r ∈ p, RatOk r 5000000) (ky : RatOk y 5000000) (h0 : rv y ≠ 0) : Ret Tryz.prog 205 [rsD p, rD y] (· = qsD (smul (1 / rv y) (p.map rv))) := by
 obtain ⟨m, hm⟩ : ∃ m, p.length = m := ⟨_, rfl⟩
 obtain ⟨g, hg⟩ : ∃ g : Nat → Rat, ∀ i, g i = rv (p.getD i r0) / rv y := ⟨fun i => rv (p.getD i r0) / rv y, fun _ => rfl⟩
 have he := smul_getD (1 / rv y) p g (fun i => by rw [hg, Rat.div_def, Rat.div_def, Rat.one_mul, Rat.mul_comm])
 rw [hm] at he
 rw [← he]
 clear he
 refine Ret.le ?_ (leRQ _)
 refine ret_of_awp tab Tryz.func205 rfl rfl (lblz rfl) (fun w0 F0 => ?_)
 repeat' (first | refine wG ?_ | refine stepMake (mm := true) (en := rC) (z := r0) tt rfl rfl rfl rfl rfl rfl rfl rfl rfl rfl rfl rfl leL sc sc ?_ | refine stepMake (mm := false) (en := rC) (z := r0) tt rfl rfl rfl rfl rfl rfl rfl rfl rfl rfl rfl rfl leL sc sc ?_ | refine wS ?_ ?_ <;> intro _ | refine finG ?_)
 refine awp_loop1 (fun (i : Nat) => ([(3, .ptr 3 0), (5, .own 10 0 m 27 3), (11, .d (rsD p)), (12, .d (.int .i64 m)), (13, .d (.int .i64 i))], [(3, .box 27 ((rC y).map V.d)), (10, .data 27 3 rC r0 (outL g m i))])) (fun i => i ≤ m) (fun i => m - i) 0 (by omega) ⟨rfl, ownEq hm, rfl, iv (by omega), rfl, rfl⟩ ⟨rfl, blkEq (by rw [hm]; unfold outL; simp), trivial⟩ (fun i hi => ?_)
 have hol := outL_len (g := g) hi
 by_cases h3 : i < m
 ·have d1 := rational_Div (p.getD i r0) y ((ok_getD kp (by decide) i).up (by decide)) (ky.up (by decide))
  rw [if_neg h0, ← hg i] at d1
  have es := outL_set (g := g) h3
  generalize outL g m i = L at *
  generalize g i = x at *
  clear hg kp ky
  repeat' (first | refine wG ?_ | refine wC d1 ?_ | refine wS ?_ ?_ <;> intro _ | refine finG ?_)
  exact ⟨i + 1, by omega, by omega, ⟨rfl, rfl, rfl, rfl, rfl, rfl⟩, rfl, blkEq es, trivial⟩
 ·have e : i = m := by omega
  subst e
  have eo : outL g i i = ((List.range i).map g).map rq := by unfold outL; rw [Nat.sub_self, List.replicate_zero, List.append_nil, List.map_map]; rfl
  have hl : ((List.range i).map g).length = i := by simp
  rw [eo] at hol ⊢
  generalize (List.range i).map g = R at *
  clear hg kp ky
  repeat' (first | refine wG ?_ | refine wS ?_ ?_ <;> intro _ | refine finG ?_)
  rfl
theorem okQ_nat {n : Nat} (h : n ≤ 1000) : okQ 3 ((n : Int) : Rat) := okQ_natI (by rcases Nat.eq_zero_or_pos n with e | e
                                                                                   · subst e; rw [limbs_zero]; decide
                                                                                   · rw [limbs_small (by show n < 4294967296; omega) (by omega)]; simp) (by decide)
theorem der_take {p : List Rat} {i : Nat} (h : i + 1 < p.length) : (derC p).take i ++ [((((i + 1 : Nat) : Int)) : Rat) * p.getD (i + 1) 0] = (derC p).take (i + 1) := by
 have hl := derC_len p
 rw [List.take_add_one, List.getElem?_eq_getElem (show i < (derC p).length by omega)]
 have e := cf_der p i
 rw [cf_eq (by omega)] at e
 rw [e]
 rfl
theorem polynomial_Derivative (p : List R3) (hp : p.length ≤ 500) (kp : ∀ r ∈ p, RatOk r 5000000) : Ret Tryz.prog 185 [rsD p] (· = qsD (derP (p.map rv))) := by
 obtain ⟨m, hm⟩ : ∃ m, p.length = m := ⟨_, rfl⟩
 have hdl := derC_len (p.map rv)
 rw [List.length_map, hm] at hdl
 have hok : ∀ q ∈ derC (p.map rv), okQ 5000003 q := fun q hq => by
  obtain ⟨i, hi, rfl⟩ := List.getElem_of_mem hq
  have e := cf_der (p.map rv) i
  rw [cf_eq hi] at e
  rw [e, ← cf_rvs]
  exact ((okQ_nat (n := i + 1) (by omega)).mul (okQ_rv (ok_getD kp (by decide) (i + 1)) (by decide))).mono (by decide)
 have ht := polynomial_Trim ((derC (p.map rv)).map rq) (by rw [List.length_map]; omega) (fun r hr => by
  obtain ⟨q, hq, rfl⟩ := List.mem_map.1 hr
  exact ok_rq ((hok q hq).mono (by decide)))
 rw [map_rv_rqL] at ht
 have ht2 : Ret Tryz.prog 149 [qsD (derC (p.map rv))] (· = qsD (derP (p.map rv))) := ht.args (LeT.cons (leQR _) (LeT.refl _))
 clear ht hok
 generalize derP (p.map rv) = R at *
 refine ret_of_awp tab Tryz.func185 rfl rfl (lblz rfl) (fun w0 F0 => ?_)
 repeat' (first | refine wG ?_ | refine rg 6 6 ?_ | refine wS ?_ ?_ <;> intro _ | refine finG ?_)
 refine awp_adopt 3 500 27 3 qC 0 rfl ?_
 refine awp_loop1 (fun (i : Nat) => ([(3, qO (i - 1)), (6, .d (rsD p)), (7, .d (.int .i64 m)), (8, .d (.int .i64 i))], [(500, qB ((derC (p.map rv)).take (i - 1)))])) (fun i => i ≤ m) (fun i => m - i) 0 (by omega) ⟨rfl, rfl, iv (by omega), rfl, rfl⟩ ⟨rfl, trivial⟩ (fun i hi => ?_)
 by_cases h3 : i < m
 ·by_cases h0 : 0 < i
  ·have f1 := rational_FromIntQ (i : Int) (by omega) (by omega)
   have m1 := rational_Mul (rq ((i : Int) : Rat)) (p.getD i r0) (ok_rq ((okQ_nat (n := i) (by omega)).mono (by decide))) ((ok_getD kp (by decide) i).up (by decide))
   rw [rv_rq] at m1
   have et := der_take (p := p.map rv) (i := i - 1) (by rw [List.length_map]; omega)
   rw [show i - 1 + 1 = i by omega, gRv (by omega)] at et
   have hlq : ((derC (p.map rv)).take (i - 1)).length = i - 1 := by rw [List.length_take]; omega
   generalize (derC (p.map rv)).take (i - 1) = A at *
   obtain ⟨B, hB⟩ : ∃ B, (derC (p.map rv)).take i = B := ⟨_, rfl⟩
   rw [hB] at et
   generalize ((i : Int) : Rat) * rv (p.getD i r0) = x at *
   generalize ((i : Int) : Rat) = y at *
   clear kp
   repeat' (first | refine wG ?_ | refine wC f1 ?_ | refine wC m1 ?_ | refine rg 6 6 ?_ | refine wS ?_ ?_ <;> intro _ | refine finG ?_)
   exact ⟨i + 1, by omega, by omega, ⟨ownEq (by rw [List.length_append, hlq]; show i - 1 + 1 = i + 1 - 1; omega), rfl, rfl, iv (by omega), rfl⟩, blkEq (et.trans (by rw [← hB]; rfl)), trivial⟩
  ·have e : i = 0 := by omega
   subst e
   clear kp
   repeat' (first | refine wG ?_ | refine rg 6 6 ?_ | refine wS ?_ ?_ <;> intro _ | refine finG ?_)
   exact ⟨1, by omega, by omega, ⟨rfl, rfl, rfl, iv (by omega), rfl⟩, rfl, trivial⟩
 ·have e : i = m := by omega
  subst e
  rw [List.take_of_length_le (show (derC (p.map rv)).length ≤ i - 1 by omega)]
  generalize derC (p.map rv) = A at *
  clear kp
  repeat' (first | refine wG ?_ | refine wC ht2 ?_ | refine rg 6 6 ?_ | refine wS ?_ ?_ <;> intro _ | refine finG ?_)
  rfl
def rqL (m : Nat) (v : Nat → Rat) : List R3 := (List.range m).map fun k => rq (v k)
theorem rqL_len (m : Nat) (v : Nat → Rat) : (rqL m v).length = m := by simp [rqL]
theorem rqL_getD {m : Nat} {v : Nat → Rat} {k : Nat} (h : k < m) : (rqL m v).getD k r0 = rq (v k) := by
 simp [rqL, List.getD_eq_getElem?_getD, h]
theorem rqL_set {m : Nat} {v v' : Nat → Rat} {k : Nat} {x : Rat} (h1 : x = v' k) (h2 : ∀ j, j ≠ k → v' j = v j) : (rqL m v).set k (rq x) = rqL m v' := by
 refine List.ext_getElem (by simp [rqL]) fun j g1 g2 => ?_
 simp only [rqL, List.getElem_set, List.getElem_map, List.getElem_range]
 split
 ·rename_i e; subst e; rw [h1]
 ·rename_i e; rw [h2 j (fun h => e h.symm)]
theorem rqL_congr {m : Nat} {v v' : Nat → Rat} (h : ∀ k, v k = v' k) : rqL m v = rqL m v' := by rw [show v = v' from funext h]
theorem rqL_zero (m : Nat) {v : Nat → Rat} (h : ∀ k, v k = 0) : List.replicate m r0 = rqL m v := by
 refine List.ext_getElem (by simp [rqL]) fun j g1 g2 => ?_
 simp only [rqL, List.getElem_replicate, List.getElem_map, h]
 decide +kernel
theorem rqL_qs (m : Nat) (v : Nat → Rat) : rqL m v = ((List.range m).map v).map rq := by simp [rqL]
theorem rqL_rv (m : Nat) (v : Nat → Rat) : (rqL m v).map rv = (List.range m).map v := by rw [rqL_qs, map_rv_rqL]
theorem rqL_ok {m : Nat} {v : Nat → Rat} {K : Nat} (h : ∀ k, okQ K (v k)) : ∀ r ∈ rqL m v, RatOk r K := by
 intro r hr
 obtain ⟨k, _, rfl⟩ := List.mem_map.1 hr
 exact ok_rq (h k)
theorem polynomial_Mul (a b : List R3) (K : Nat) (ha : a.length ≤ 100) (hb : b.length ≤ 100) (ka : ∀ r ∈ a, RatOk r K) (kb : ∀ r ∈ b, RatOk r K) (hK : 1 < K) (hK2 : K * (2 * a.length + 3) ≤ 10000000) : Ret Tryz.prog 103 [rsD a, rsD b] (· = qsD (trimP (mulC (a.map rv) (b.map rv)))) := by
 have hK3 : K ≤ 3333334 := by
  have := Nat.mul_le_mul_left K (show 3 ≤ 2 * a.length + 3 by omega)
  omega
 have ta := polynomial_Trim a (by omega) (fun r hr => (ka r hr).up (by omega))
 have tb := polynomial_Trim b (by omega) (fun r hr => (kb r hr).up (by omega))
 have la := trim_len (a.map rv)
 have lb := trim_len (b.map rv)
 rw [List.length_map] at la lb
 have oa : ∀ x ∈ trimP (a.map rv), okQ K x := fun x hx => by
  obtain ⟨r, hr, rfl⟩ := List.mem_map.1 (trim_mem hx)
  exact okQ_rv (ka r hr) hK
 have ob : ∀ x ∈ trimP (b.map rv), okQ K x := fun x hx => by
  obtain ⟨r, hr, rfl⟩ := List.mem_map.1 (trim_mem hx)
  exact okQ_rv (kb r hr) hK
 have he : trimP (mulC (a.map rv) (b.map rv)) = trimP (mulC (trimP (a.map rv)) (trimP (b.map rv))) :=
  trim_ext (((mul_eqv_l _ (trim_eqv _).symm)).trans (mul_eqv_r _ (trim_eqv _).symm))
 rw [he]
 have hpT := tr_trim (a.map rv)
 have hqT := tr_trim (b.map rv)
 generalize trimP (a.map rv) = p at *
 generalize trimP (b.map rv) = q at *
 have ok : ∀ i, i ≤ p.length → ∀ j k, okQ 10000000 (rowV p q i j k) := fun i hi j k => (ok_row oa ob hK hi j k).mono (by
  have h1 : 2 * K * i + 3 * K = K * (2 * i + 3) := by rw [Nat.mul_add, Nat.mul_comm K 3, ← Nat.mul_assoc, Nat.mul_comm K 2]
  have h2 := Nat.mul_le_mul_left K (show 2 * i + 3 ≤ 2 * a.length + 3 by omega)
  omega)
 clear ka kb he
 by_cases h0 : p.length = 0 ∨ q.length = 0
 ·have e : trimP (mulC p q) = [] := (trim_nil_iff _).2 fun i => by
   rcases h0 with h | h
   ·rw [List.length_eq_zero_iff.1 h]; rfl
   ·rw [List.length_eq_zero_iff.1 h]; exact mul_zero_r p [] (fun _ => rfl) i
  rw [e]
  clear oa ob ok hpT hqT e
  rcases h0 with h | h
  ·have hz : (p.length : Int) = 0 := by omega
   refine ret_of_awp tab Tryz.func103 rfl rfl (lblz rfl) (fun w0 F0 => ?_)
   repeat' (first | refine wG ?_ | refine wC ta ?_ | refine wC tb ?_ | refine rg 11 14 ?_ | refine wS ?_ ?_ <;> intro _ | (show retPost _ _ _ _ _; first | refine finF true rfl rfl sc ?_ | refine finF false rfl rfl sc ?_ | refine finC false rfl rfl sc sc ?_ | refine finN rfl rfl sc ?_ | refine finL true rfl rfl sc rfl (LeR.cons rfl leL LeR.nil) ?_ | refine finA true rfl rfl sc ?_ | refine finA false rfl rfl sc ?_ | refine finE true rfl rfl sc ?_ | refine finE false rfl rfl sc ?_))
   all_goals rfl
  ·have hz : (q.length : Int) = 0 := by omega
   refine ret_of_awp tab Tryz.func103 rfl rfl (lblz rfl) (fun w0 F0 => ?_)
   repeat' (first | refine wG ?_ | refine wC ta ?_ | refine wC tb ?_ | refine rg 11 14 ?_ | refine wS ?_ ?_ <;> intro _ | (show retPost _ _ _ _ _; first | refine finF true rfl rfl sc ?_ | refine finF false rfl rfl sc ?_ | refine finC false rfl rfl sc sc ?_ | refine finN rfl rfl sc ?_ | refine finL true rfl rfl sc rfl (LeR.cons rfl leL LeR.nil) ?_ | refine finA true rfl rfl sc ?_ | refine finA false rfl rfl sc ?_ | refine finE true rfl rfl sc ?_ | refine finE false rfl rfl sc ?_))
   all_goals rfl
 ·obtain ⟨m, hm⟩ : ∃ m, p.length + q.length - 1 = m := ⟨_, rfl⟩
  have p0 : 0 < p.length := by omega
  have q0 : 0 < q.length := by omega
  have hend : trimP ((List.range m).map (rowV p q p.length 0)) = trimP (mulC p q) := trim_ext fun i => by
   rw [cf_range]
   split
   ·exact rowV_all p q i
   ·have hh := (mul_high p q (p.length - 1) (q.length - 1) (fun i hi => cf_ge (by omega)) (fun i hi => cf_ge (by omega))).2 i (by omega)
    exact hh.symm
  have tm := polynomial_Trim (rqL m (rowV p q p.length 0)) (by rw [rqL_len]; omega) (rqL_ok fun k => ok _ (Nat.le_refl _) 0 k)
  rw [rqL_rv, hend] at tm
  generalize trimP (mulC p q) = R at *
  clear hend
  refine ret_of_awp tab Tryz.func103 rfl rfl (lblz rfl) (fun w0 F0 => ?_)
  repeat' (first | refine wG ?_ | refine stepMake (mm := true) (en := rC) (z := r0) tt rfl rfl rfl rfl rfl rfl rfl rfl rfl rfl rfl rfl leL sc sc ?_ | refine stepMake (mm := false) (en := rC) (z := r0) tt rfl rfl rfl rfl rfl rfl rfl rfl rfl rfl rfl rfl leL sc sc ?_ | refine wC ta ?_ | refine wC tb ?_ | refine rg 11 14 ?_ | refine wS ?_ ?_ <;> intro _ | refine finG ?_)
  refine awp_loop1 (fun (i : Nat) => ([(1, .d (qsD q)), (5, .own 28 0 m 27 3), (29, .d (qsD p)), (30, .d (.int .i64 p.length)), (31, .d (.int .i64 i))], [(28, .data 27 3 rC r0 (rqL m (rowV p q i 0)))])) (fun i => i ≤ p.length) (fun i => p.length - i) 0 (by omega) ⟨rfl, ownEq (by omega), rfl, rfl, rfl, rfl⟩ ⟨blkEq (by rw [← rqL_zero m (rowV_zero p q)]; congr 1; omega), trivial⟩ (fun i hi => ?_)
  have hl1 := rqL_len m (rowV p q i 0)
  by_cases h3 : i < p.length
  ·have gi : p.getD i 0 = cf p i := rfl
   repeat' (first | refine wG ?_ | refine rg 11 14 ?_ | refine wS ?_ ?_ <;> intro _ | refine finG ?_)
   refine awp_loop1 (fun (j : Nat) => ([(1, .d (qsD q)), (5, .own 28 0 m 27 3), (6, .d (.int .i64 i)), (7, .ptr 7 0), (29, .d (qsD p)), (30, .d (.int .i64 p.length)), (31, .d (.int .i64 i)), (36, .d (qsD q)), (37, .d (.int .i64 q.length)), (38, .d (.int .i64 j))], [(28, .data 27 3 rC r0 (rqL m (rowV p q i j))), (7, .box 27 ((rC (rq (p.getD i 0))).map V.d))])) (fun j => j ≤ q.length) (fun j => q.length - j) 0 (by omega) ⟨rfl, rfl, rfl, rfl, rfl, rfl, rfl, rfl, rfl, rfl, rfl⟩ ⟨rfl, rfl, trivial⟩ (fun j hj => ?_)
   have hl2 := rqL_len m (rowV p q i j)
   by_cases h4 : j < q.length
   ·have ej : ((i : Int) + (j : Int)).toNat = i + j := by omega
    have m1 := rational_Mul (rq (p.getD i 0)) (rq (q.getD j 0)) (ok_rq ((ok_cf oa hK i).mono (by omega))) (ok_rq ((ok_cf ob hK j).mono (by omega)))
    have oxy : okQ (K + K) (p.getD i 0 * q.getD j 0) := (ok_cf oa hK i).mul (ok_cf ob hK j)
    have a1 := rational_Add ((rqL m (rowV p q i j)).getD ((i : Int) + (j : Int)).toNat r0) (rq (p.getD i 0 * q.getD j 0)) (by rw [ej, rqL_getD (by omega)]; exact ok_rq ((ok i hi j (i + j)).mono (by decide))) (ok_rq (oxy.mono (by omega)))
    rw [rv_rq, rv_rq] at m1
    rw [rv_rq, ej, rqL_getD (show i + j < m by omega), rv_rq] at a1
    have es := rqL_set (m := m) (v := rowV p q i j) (v' := rowV p q i (j + 1)) (k := i + j) (x := rowV p q i j (i + j) + p.getD i 0 * q.getD j 0) (by rw [rowV_step, if_pos rfl]; rfl) (fun k hk => by rw [rowV_step, if_neg hk]; exact Rat.add_zero _)
    have a2 : Ret Tryz.prog 44 [rD ((rqL m (rowV p q i j)).getD ((i : Int) + (j : Int)).toNat r0), rD (rq (p.getD i 0 * q.getD j 0))] (· = rD (rq (rowV p q i j (i + j) + p.getD i 0 * q.getD j 0))) := by rw [ej, rqL_getD (show i + j < m by omega)]; exact a1
    clear a1
    generalize rowV p q i j (i + j) + p.getD i 0 * q.getD j 0 = z at *
    generalize p.getD i 0 * q.getD j 0 = xy at *
    obtain ⟨L2, hL2⟩ : ∃ L2, rqL m (rowV p q i (j + 1)) = L2 := ⟨_, rfl⟩
    rw [hL2] at es
    generalize rqL m (rowV p q i j) = L at *
    clear oa ob ok hpT hqT ta tb tm oxy
    repeat' (first | refine wG ?_ | refine wC m1 ?_ | refine wC a2 ?_ | refine rg 11 14 ?_ | refine wS ?_ ?_ <;> intro _ | refine finG ?_)
    exact ⟨j + 1, by omega, by omega, ⟨rfl, rfl, rfl, rfl, rfl, rfl, rfl, rfl, rfl, iv (by omega), rfl⟩, blkEq (es.trans hL2.symm), rfl, trivial⟩
   ·have e : j = q.length := by omega
    subst e
    clear oa ob ok hpT hqT ta tb tm
    repeat' (first | refine wG ?_ | refine rg 11 14 ?_ | refine wS ?_ ?_ <;> intro _ | refine finG ?_)
    exact ⟨i + 1, by omega, by omega, ⟨rfl, rfl, rfl, rfl, iv (by omega), rfl⟩, blkEq (rqL_congr (rowV_row q h3)), trivial⟩
  ·have e : i = p.length := by omega
   subst e
   generalize rqL m (rowV p q p.length 0) = L at *
   clear oa ob ok hpT hqT ta tb
   repeat' (first | refine wG ?_ | refine wC tm ?_ | refine rg 11 14 ?_ | refine wS ?_ ?_ <;> intro _ | refine finG ?_)
   rfl
theorem polynomial_TrimQ (l : List Rat) (hn : l.length ≤ 1000) (hl : ∀ x ∈ l, okQ 10000000 x) : RetB Tryz.prog 149 [.d (rsD (l.map rq))] (lookB []) (qO (trimP l).length) (lookB [(500, qB (trimP l))]) := by
 have h := polynomial_TrimB (l.map rq) (by rw [List.length_map]; exact hn) (fun r hr => by
  obtain ⟨q, hq, rfl⟩ := List.mem_map.1 hr
  exact ok_rq (hl q hq))
 rwa [map_rv_rqL] at h
theorem polynomial_Div (a b : List R3) (K : Nat) (I : List Rat → Prop) (ha : a.length ≤ 100) (hb : b.length ≤ 100) (ka : ∀ r ∈ a, RatOk r 10000000) (kb : ∀ r ∈ b, RatOk r K) (d0 : trimP (b.map rv) ≠ []) (hI0 : I (trimP (a.map rv))) (hI1 : ∀ r, I r → Tr r → (trimP (b.map rv)).length ≤ r.length → I (stepRP r (trimP (b.map rv)))) (hI2 : ∀ r, I r → ∀ x ∈ r, okQ K x) (hK : 1 < K) (hK2 : K ≤ 2000000) : Ret Tryz.prog 151 [rsD a, rsD b] (· = .tup [qsD (divP (trimP (a.map rv)) (trimP (b.map rv))).1, qsD (divP (trimP (a.map rv)) (trimP (b.map rv))).2, .int .i64 0]) := by
 have ta := polynomial_TrimB a (by omega) ka
 have tb := polynomial_Trim b (by omega) (fun r hr => (kb r hr).up (by omega))
 have la := trim_len (a.map rv)
 have lb := trim_len (b.map rv)
 rw [List.length_map] at la lb
 have od : ∀ x ∈ trimP (b.map rv), okQ K x := fun x hx => by
  obtain ⟨r, hr, rfl⟩ := List.mem_map.1 (trim_mem hx)
  exact okQ_rv (kb r hr) hK
 have hpT := tr_trim (a.map rv)
 have hdT := tr_trim (b.map rv)
 generalize trimP (a.map rv) = p at *
 generalize trimP (b.map rv) = d at *
 clear ka kb
 have dl : 0 < d.length := ne_len d0
 obtain ⟨m, hm⟩ : ∃ m, (max (0 : Int) ((p.length : Int) - (d.length : Int) + 1)).toNat = m := ⟨_, rfl⟩
 have hm2 : m = p.length + 1 - d.length := by omega
 have ld0 : lead d ≠ 0 := lead_ne hdT d0
 have odl : okQ K (lead d) := ok_cf od hK _
 refine ret_of_awp tab Tryz.func151 rfl rfl (lblz rfl) (fun w0 F0 => ?_)
 repeat' (first | refine wG ?_ | refine stepMake (mm := true) (en := rC) (z := r0) tt rfl rfl rfl rfl rfl rfl rfl rfl rfl rfl rfl rfl leL sc sc ?_ | refine stepMake (mm := false) (en := rC) (z := r0) tt rfl rfl rfl rfl rfl rfl rfl rfl rfl rfl rfl rfl leL sc sc ?_ | refine wD [500] ta ?_ | refine wC tb ?_ | refine rg 7 20 ?_ | refine rg 11 17 ?_ | refine wS ?_ ?_ <;> intro _ | refine finG ?_)
 refine awp_loop1 (fun (x : (Nat → Rat) × List Rat) => ([(1, .d (qsD d)), (4, .own 24 0 m 27 3), (5, qO x.2.length)], [(24, .data 27 3 rC r0 (rqL m x.1)), (500, qB x.2)])) (fun x => I x.2 ∧ Tr x.2 ∧ x.2.length ≤ p.length ∧ (∀ k, k + d.length ≤ x.2.length → x.1 k = 0) ∧ (∀ k, okQ (2 * K) (x.1 k)) ∧ Eqv (addC (mulC ((List.range m).map x.1) d) x.2) p) (fun x => x.2.length) (fun _ => 0, p) ⟨hI0, hpT, Nat.le_refl _, fun _ _ => rfl, fun _ => okQ_zero (by omega), divP_start⟩ ⟨rfl, ownEq hm, rfl, rfl⟩ ⟨blkEq (by rw [← rqL_zero m (fun _ => rfl), hm]), rfl, trivial⟩ (fun x hx => ?_)
 obtain ⟨v, r⟩ := x
 obtain ⟨i1, i2, i3, i4, i5, i6⟩ := hx
 dsimp only at i1 i2 i3 i4 i5 i6 ⊢
 have hl1 := rqL_len m v
 by_cases h3 : d.length ≤ r.length
 ·have or := hI2 r i1
  obtain ⟨k, hk⟩ : ∃ k, remK r d = k := ⟨_, rfl⟩
  have hk2 : k = r.length - d.length := hk.symm
  obtain ⟨c, hc⟩ : ∃ c, remC r d = c := ⟨_, rfl⟩
  have oc : okQ (2 * K) c := by
   rw [← hc, Nat.two_mul]; exact (ok_cf or hK _).div odl ld0
  have d1 := rational_Div (rq (r.getD (r.length - 1) 0)) (rq (d.getD (d.length - 1) 0)) (ok_rq ((ok_cf or hK _).mono (by omega))) (ok_rq ((ok_cf od hK _).mono (by omega)))
  rw [rv_rq, rv_rq, if_neg (show ¬ d.getD (d.length - 1) 0 = 0 from ld0), show r.getD (r.length - 1) 0 / d.getD (d.length - 1) 0 = c from hc] at d1
  have e1 : ((r.length : Int) - 1).toNat = r.length - 1 := by omega
  have e2 : ((d.length : Int) - 1).toNat = d.length - 1 := by omega
  have e3 : ((r.length : Int) - (d.length : Int)).toNat = k := by omega
  rw [← e1, ← e2] at d1
  have es := rqL_set (m := m) (v := v) (v' := updQ v k c) (k := k) (x := c) (by unfold updQ; rw [if_pos rfl]) (fun j hj => by unfold updQ; rw [if_neg hj])
  have eg := rqL_getD (m := m) (v := updQ v k c) (k := k) (by omega)
  rw [show updQ v k c k = c by unfold updQ; rw [if_pos rfl]] at eg
  have hst := updQ_step (m := m) (p := p) (i4 _ (by rw [hk]; omega)) (by rw [hk]; omega) i6
  have hrl := stepRP_len i2 hdT d0 h3
  have hra := rowR_all h3
  rw [hk, hc] at hst hra
  have ht := polynomial_TrimQ (rowR r d k c d.length) (by rw [rowR_len]; omega) (fun x hx => (rowR_ok or od oc hK _ x hx).mono (by omega))
  rw [hra] at ht
  have hI := hI1 r i1 i2 h3
  have htr : Tr (stepRP r d) := tr_trim _
  have ov : ∀ j, okQ (2 * K) (updQ v k c j) := fun j => by
   unfold updQ
   split
   ·exact oc
   ·exact i5 j
  have fin : ∀ j, j + d.length ≤ (stepRP r d).length → updQ v k c j = 0 := fun j hj => by
   unfold updQ
   rw [if_neg (by omega)]
   exact i4 j (by omega)
  have hro := fun i => rowR_ok (k := k) (i := i) or od oc hK
  generalize stepRP r d = r2 at *
  have hl3 := rqL_len m (updQ v k c)
  obtain ⟨L1, hL1⟩ : ∃ L1, rqL m v = L1 := ⟨_, rfl⟩
  rw [hL1] at hl1 es ⊢
  obtain ⟨L2, hL2⟩ : ∃ L2, rqL m (updQ v k c) = L2 := ⟨_, rfl⟩
  rw [hL2] at hl3 es eg
  repeat' (first | refine stopA 9 tt ?_ | refine wG ?_ | refine wC d1 ?_ | refine rg 7 20 ?_ | refine rg 11 17 ?_ | refine wS ?_ ?_ <;> intro _ | refine finG ?_)
  refine stopOut ?_
  repeat' (first | refine wG ?_ | refine rg 7 20 ?_ | refine rg 11 17 ?_ | refine wS ?_ ?_ <;> intro _ | refine finG ?_)
  refine awp_loop1 (fun (i : Nat) => ([(1, .d (qsD d)), (4, .own 24 0 m 27 3), (5, qO r.length), (7, .d (.int .i64 k)), (54, .d (qsD d)), (55, .d (.int .i64 d.length)), (56, .d (.int .i64 i))], [(24, .data 27 3 rC r0 L2), (500, qB (rowR r d k c i))])) (fun i => i ≤ d.length) (fun i => d.length - i) 0 (by omega) ⟨rfl, rfl, rfl, iv (by omega), rfl, rfl, rfl, rfl⟩ ⟨blkEq (by rw [e3]; exact es), blkEq (rowR_zero r d k c).symm, trivial⟩ (fun i hi => ?_)
  have hrl2 := rowR_len r d k c i
  by_cases h4 : i < d.length
  ·have m1 := rational_Mul (rq c) (rq (d.getD i 0)) (ok_rq (oc.mono (by omega))) (ok_rq ((ok_cf od hK i).mono (by omega)))
   have s1 := rational_Sub (rq ((rowR r d k c i).getD (k + i) 0)) (rq (c * d.getD i 0)) (ok_rq ((ok_cf (hro i) (by omega) _).mono (by omega))) (ok_rq ((oc.mul (ok_cf od hK i)).mono (by omega)))
   rw [rv_rq, rv_rq] at m1 s1
   have hs := rowR_set (r := r) (d := d) (k := k) (c := c) (i := i) (by omega)
   rw [← eg] at m1
   generalize (rowR r d k c i).getD (k + i) 0 - c * d.getD i 0 = z at *
   generalize c * d.getD i 0 = y at *
   obtain ⟨B, hB⟩ : ∃ B, rowR r d k c (i + 1) = B := ⟨_, rfl⟩
   rw [hB] at hs
   generalize rowR r d k c i = A at *
   clear hI0 hI1 hI2 or od hro ov fin i4 i5 i6 hst es hL1 hL2 ta tb ht d1
   repeat' (first | refine wG ?_ | refine wC m1 ?_ | refine wC s1 ?_ | refine rg 7 20 ?_ | refine rg 11 17 ?_ | refine wS ?_ ?_ <;> intro _ | refine finG ?_)
   exact ⟨i + 1, by omega, by omega, ⟨rfl, rfl, rfl, rfl, rfl, rfl, iv (by omega), rfl⟩, rfl, blkEq (hs.trans hB.symm), trivial⟩
  ·have e : i = d.length := by omega
   subst e
   generalize rowR r d k c d.length = A at *
   repeat' (first | refine stopA 13 tt ?_ | refine wG ?_ | refine rg 7 20 ?_ | refine rg 11 17 ?_ | refine wS ?_ ?_ <;> intro _ | refine finG ?_)
   refine stopOut ?_
   refine awp_conv ((Conv.frz 500 (b := qB A) rfl).trans (Conv.cast 5 (rsD (A.map rq)) rfl ((LeD.cutAll (by rw [hrl2])).trans (leQR A)))) ?_
   repeat' (first | refine wG ?_ | refine wD [500] ht ?_ | refine rg 7 20 ?_ | refine rg 11 17 ?_ | refine wS ?_ ?_ <;> intro _ | refine finG ?_)
   exact ⟨(updQ v k c, r2), ⟨hI, htr, Nat.le_trans (Nat.le_of_lt hrl) i3, fin, ov, hst⟩, hrl, ⟨rfl, rfl, rfl, rfl⟩, blkEq hL2.symm, rfl, trivial⟩
 ·have hd := divP_end hpT hdT d0 i2 (by omega) i6
  have tm := polynomial_Trim (rqL m v) (by omega) (rqL_ok fun k => (i5 k).mono (by omega))
  rw [rqL_rv] at tm
  rw [hd]
  dsimp only
  generalize trimP (List.map v (List.range m)) = R at *
  generalize rqL m v = L at *
  clear hI0 hI1 hI2 od i4 i5 i6 ta tb hd
  repeat' (first | refine stopA 14 tt ?_ | refine wG ?_ | refine rg 7 20 ?_ | refine rg 11 17 ?_ | refine wS ?_ ?_ <;> intro _ | refine finG ?_)
  refine stopOut ?_
  refine awp_conv ((Conv.frz 500 (b := qB r) rfl).trans (Conv.cast 5 (qsD r) rfl LeD.full)) ?_
  repeat' (first | refine wG ?_ | refine wC tm ?_ | refine rg 7 20 ?_ | refine rg 11 17 ?_ | refine wS ?_ ?_ <;> intro _ | refine finTG ?_)
  exact LeT.refl _
theorem leQRs (p : List Rat) {ds es : List D} (h : LeT ds es) : LeT (qsD p :: ds) (rsD (p.map rq) :: es) := LeT.cons (leQR p) h
theorem rqs_ok {p : List Rat} {k : Nat} (h : ∀ x ∈ p, okQ k x) : ∀ r ∈ p.map rq, RatOk r k := fun r hr => by
 obtain ⟨q, hq, rfl⟩ := List.mem_map.1 hr
 exact ok_rq (h q hq)
theorem HtP.gt {h : Nat} {p : List Rat} (H : HtP h p) : 1 < h := by
 obtain ⟨c, P, c0, hc, _⟩ := H
 have : 0 < ln c.natAbs := by
  rcases Nat.eq_zero_or_pos (ln c.natAbs) with e | e
  ·exact absurd (limbs_eq_nil.1 (List.length_eq_zero_iff.1 e)) (by omega)
  ·exact e
 omega
theorem polynomial_DivQ (p d : List Rat) {h l : Nat} (hp : Tr p) (hd : Tr d) (d0 : d ≠ []) (lp : p.length ≤ 100) (ld : d.length ≤ 100) (H : HtP h p) (L : HtP l d) (hb : h + (p.length + 1 - d.length) * l + l ≤ 2000000) : Ret Tryz.prog 151 [qsD p, qsD d] (· = .tup [qsD (divP p d).1, qsD (divP p d).2, .int .i64 0]) := by
 have h1 := HtP.gt H
 obtain ⟨K, hK⟩ : ∃ K, K = h + (p.length + 1 - d.length) * l + l := ⟨_, rfl⟩
 have hv := polynomial_Div (p.map rq) (d.map rq) K (fun r => ∃ k, k + (r.length + 1 - d.length) ≤ p.length + 1 - d.length ∧ HtP (h + k * l) r) (by rw [List.length_map]; exact lp) (by rw [List.length_map]; exact ld) (rqs_ok fun x hx => (H.okL x hx).mono (by omega)) (rqs_ok fun x hx => (L.okL x hx).mono (by omega)) (by rw [map_rv_rqL, trim_of hd]; exact d0)
  (by rw [map_rv_rqL, trim_of hp]; exact ⟨0, by omega, H.mono (by omega)⟩)
  (by
   rw [map_rv_rqL, trim_of hd]
   rintro r ⟨k, hk, hr⟩ tr hle
   refine ⟨k + 1, ?_, ?_⟩
   ·have := stepRP_len tr hd d0 hle; omega
   ·have := hr.stepRP L (lead_ne hd d0)
    refine this.mono ?_
    rw [Nat.add_mul, Nat.one_mul]; omega)
  (by
   rintro r ⟨k, hk, hr⟩ x hx
   refine (hr.okL x hx).mono ?_
   have := Nat.mul_le_mul_right l (show k ≤ p.length + 1 - d.length by omega)
   omega) (by omega) (by omega)
 rw [map_rv_rqL, map_rv_rqL, trim_of hp, trim_of hd] at hv
 exact hv.args (leQRs p (leQRs d (LeT.refl _)))
theorem polynomial_scaledQ (p : List Rat) (y : Rat) (hp : p.length ≤ 500) (kp : ∀ x ∈ p, okQ 5000000 x) (ky : okQ 5000000 y) (h0 : y ≠ 0) : Ret Tryz.prog 205 [qsD p, qD y] (· = qsD (smul (1 / y) p)) := by
 have h := polynomial_scaled (p.map rq) (rq y) (by rw [List.length_map]; exact hp) (rqs_ok kp) (ok_rq ky) (by rw [rv_rq]; exact h0)
 rw [map_rv_rqL, rv_rq] at h
 exact h.args (leQRs p (LeT.refl _))
theorem polynomial_negativeQ (p : List Rat) (hT : Tr p) (hp : p.length ≤ 500) (kp : ∀ x ∈ p, okQ 5000000 x) : Ret Tryz.prog 206 [qsD p] (· = qsD (negC p)) := by
 have h := polynomial_Sub [] (p.map rq) (by decide) (by rw [List.length_map]; exact hp) (fun r hr => by simp at hr) (rqs_ok kp)
 rw [map_rv_rqL, List.map_nil, show subC [] p = negC p from rfl, trim_of (tr_neg hT)] at h
 have h2 : Ret Tryz.prog 102 [.nils, qsD p] (· = qsD (negC p)) := h.args (LeT.cons LeD.nils (leQRs p (LeT.refl _)))
 generalize negC p = r at *
 clear kp hT h
 refine ret_of_awp tab Tryz.func206 rfl rfl (lblz rfl) (fun w0 F0 => ?_)
 repeat' (first | refine wG ?_ | refine wC h2 ?_ | refine wS ?_ ?_ <;> intro _ | refine finG ?_)
 rfl
theorem polynomial_sturm (fid : FuncId) (ch : List Rat → List Rat) (J : List Rat → List Rat → Prop) (P : List R3) (hP : P.length ≤ 100) (kP : ∀ r ∈ P, RatOk r 5000000) (hJ0 : J (trimP (P.map rv)) (derP (P.map rv)))
    (hJ : ∀ a b, J a b → a ≠ [] → b ≠ [] → (∃ q, Ret Tryz.prog 151 [qsD a, qsD b] (· = .tup [qsD q, qsD (remP a b), .int .i64 0])) ∧ Ret Tryz.prog 206 [qsD (remP a b)] (· = qsD (negC (remP a b))) ∧ Ret Tryz.prog fid [qsD (negC (remP a b))] (· = qsD (ch (negC (remP a b)))) ∧ J b (ch (negC (remP a b))) ∧ (ch (negC (remP a b))).length < b.length) (hl : ∀ a b, J a b → a.length ≤ 100 ∧ b.length ≤ 100) : Ret Tryz.prog 186 [rsD P, .fn fid []] (· = qssD (chainL ch (P.length + 1) (trimP (P.map rv)) (derP (P.map rv)))) := by
  have t1 := polynomial_Trim P (by omega) (fun r hr => (kP r hr).up (by decide))
  have t2 := polynomial_Derivative P (by omega) kP
  have hn : (derP (P.map rv)).length + 1 ≤ P.length + 1 := by
    have h1 := trim_len (derC (P.map rv))
    rw [derC_len, List.length_map] at h1
    show (trimP (derC (P.map rv))).length + 1 ≤ _
    omega
  obtain ⟨n, hn0⟩ : ∃ n, P.length + 1 = n := ⟨_, rfl⟩
  rw [hn0] at hn ⊢
  generalize trimP (P.map rv) = a0 at *
  generalize derP (P.map rv) = b0 at *
  obtain ⟨R, hR⟩ : ∃ R, chainL ch n a0 b0 = R := ⟨_, rfl⟩
  rw [hR]
  clear kP
  refine ret_of_awp tab Tryz.func186 rfl rfl (lblz rfl) (fun w0 F0 => ?_)
  repeat' (first | refine wG ?_ | refine wC t1 ?_ | refine wC t2 ?_ | refine wS ?_ ?_ <;> intro _ | refine finG ?_)
  refine awp_adopt 5 500 22 1 eQ [] rfl ?_
  refine awp_loop1 (fun (x : List (List Rat) × List Rat × List Rat × Nat) => ([(1, .d (.fn fid [])), (5, .own 500 0 x.1.length 22 1), (6, .d (qsD x.2.1)), (7, .d (qsD x.2.2.1))], [(500, .data 22 1 eQ [] x.1)])) (fun x => J x.2.1 x.2.2.1 ∧ x.2.2.1.length + 1 ≤ x.2.2.2 ∧ x.1 ++ chainL ch x.2.2.2 x.2.1 x.2.2.1 = R ∧ x.1.length + x.2.2.2 ≤ 1000) (fun x => x.2.2.2) ([], a0, b0, n) ⟨hJ0, hn, hR, by show 0 + n ≤ 1000; omega⟩ ⟨rfl, rfl, rfl, rfl, rfl⟩ ⟨rfl, trivial⟩ (fun x hx => ?_)
  obtain ⟨acc, a, b, k⟩ := x
  obtain ⟨i1, i2, i3, i4⟩ := hx
  dsimp only at i1 i2 i3 i4 ⊢
  obtain ⟨l1, l2⟩ := hl a b i1
  obtain ⟨k, rfl⟩ : ∃ j, k = j + 1 := ⟨k - 1, by omega⟩
  rw [chainL] at i3
  by_cases ha : a = []
  · rw [if_pos ha, List.append_nil] at i3
    have h0 : a.length = 0 := by rw [ha]; rfl
    rw [← i3]
    clear hJ hJ0 hl t1 t2
    repeat' (first | refine wG ?_ | refine wS ?_ ?_ <;> intro _ | refine finG ?_)
    rfl
  · rw [if_neg ha] at i3
    have h0 := ne_len ha
    by_cases hb : b = []
    · rw [if_pos hb] at i3
      have h1 : b.length = 0 := by rw [hb]; rfl
      rw [← i3]
      clear hJ hJ0 hl t1 t2
      repeat' (first | refine wG ?_ | refine wS ?_ ?_ <;> intro _ | refine finG ?_)
      rfl
    · rw [if_neg hb] at i3
      have h1 := ne_len hb
      obtain ⟨⟨q, d1⟩, d2, d3, d4, d5⟩ := hJ a b i1 ha hb
      generalize ch (negC (remP a b)) = c at *
      generalize negC (remP a b) = y at *
      generalize remP a b = z at *
      clear hJ hJ0 hl t1 t2
      repeat' (first | refine wG ?_ | refine wC d1 ?_ | refine wC d2 ?_ | refine wC d3 ?_ | refine wS ?_ ?_ <;> intro _ | refine finG ?_)
      exact ⟨(acc ++ [a], b, c, k), ⟨d4, by show c.length + 1 ≤ k; omega, by rw [← i3]; show (acc ++ [a]) ++ _ = _; simp only [List.append_assoc, List.singleton_append], by show (acc ++ [a]).length + k ≤ 1000; rw [List.length_append, List.length_singleton]; omega⟩, by show k < k + 1; omega, ⟨rfl, ownEq (by rw [List.length_append]), rfl, rfl, rfl⟩, rfl, trivial⟩
theorem backward_iter (l : List R3) (hn : l.length ≤ 1000) : Iter Tryz.prog 157 [.ptr [rsD l] 0] l.length (fun k => [.int .i64 ((l.length : Int) - 1 - k), rD (l.getD ((l.length : Int) - 1 - k).toNat r0)]) := by
 refine iter_of_awpI tab Tryz.func157 rfl rfl (lblz rfl) (fun bs ks hfam L w0 F0 A io0 hY => ?_)
 refine awpI_seq (awpI_region ?_ nout)
 repeat' (first | refine wG ?_ | refine wS ?_ ?_ <;> intro _ | refine finG ?_)
 refine awpI_block (awpI_loop1 (fun (k : Nat) => ([(0, .d (.raw (.func (.yield L) #[] #[]))), (1, .d (.ptr [rsD l] 0)), (3, .d (.int .i64 ((l.length : Int) - 1 - k)))], bs k)) (fun k => k ≤ l.length) (fun k => l.length - k) 0 (by omega) ⟨rfl, rfl, iv (by omega), rfl⟩ (hfam.of rfl) (fun k hk => ?_) (fun k => by show (coverT _ _ && coverB (bs k) (bs k)) = true; rw [hfam.covB k]; rfl))
 refine awpI_seq (awpI_seq (awpI_region ?_ nout))
 repeat' (first | refine wG ?_ | refine wS ?_ ?_ <;> intro _ | refine finG ?_)
 refine awpI_cond rfl (fun h => ?_) (fun h => ?_)
 ·have h := of_decide_eq_true h
  refine awpI_skip ?_
  show awpI _ _ _ _ _ _
  refine awpI_seq (awpI_block (awpI_seq (awpI_cut 6 nout ?_)))
  repeat' (first | refine wG ?_ | refine wS ?_ ?_ <;> intro _ | refine finG ?_)
  refine lI_yieldF hfam (hY k (by omega)) rfl rfl rfl rfl rfl rfl leVT (hfam.of rfl) ?_
  refine awpLI_all ?_ nout
  repeat' (first | refine wG ?_ | refine wS ?_ ?_ <;> intro _ | refine finG ?_)
  refine awpI_cond rfl (fun h => absurd h (by simp)) (fun _ => ?_)
  refine awpI_skip ?_
  show awpI _ _ _ _ _ _
  refine awpI_region ?_ nout
  repeat' (first | refine wG ?_ | refine wS ?_ ?_ <;> intro _ | refine finG ?_)
  exact ⟨k + 1, by omega, by omega, ⟨rfl, rfl, iv (by omega), rfl⟩, hfam.same rfl⟩
 ·have h := of_decide_eq_false h
  refine awpI_exit ?_
  have e : k = l.length := by omega
  subst e
  exact ⟨rfl, ⟨[], rfl, .inr ⟨by simp, [], rfl, LeVT.nil⟩⟩, hfam.of rfl⟩
theorem slices_Backward (l : List R3) : Ret Tryz.prog 112 [rsD l] (· = .fn 157 [.ptr [rsD l] 0]) := by
 refine ret_of_awp tab Tryz.func112 rfl rfl (lblz rfl) (fun w0 F0 => ?_)
 repeat' (first | refine wG ?_ | refine wS ?_ ?_ <;> intro _ | (show retPost _ _ _ _ _; first | refine finF true rfl rfl sc ?_ | refine finF false rfl rfl sc ?_ | refine finC false rfl rfl sc sc ?_ | refine finN rfl rfl sc ?_ | refine finL true rfl rfl sc rfl (LeR.cons rfl leL LeR.nil) ?_ | refine finA true rfl rfl sc ?_ | refine finA false rfl rfl sc ?_ | refine finE true rfl rfl sc ?_ | refine finE false rfl rfl sc ?_))
 trace_state
 rfl
def hornK (p : List Rat) (x : Rat) (k : Nat) : Rat := evalP (p.drop (p.length - k)) x
theorem horn_zero (p : List Rat) (x : Rat) : hornK p x 0 = 0 := by unfold hornK; rw [Nat.sub_zero, List.drop_length]; rfl
theorem horn_all (p : List Rat) (x : Rat) : hornK p x p.length = evalP p x := by unfold hornK; rw [Nat.sub_self]; rfl
theorem horn_succ {p : List Rat} {x : Rat} {k : Nat} (h : k < p.length) : hornK p x (k + 1) = hornK p x k * x + p.getD (p.length - 1 - k) 0 := by
 unfold hornK
 rw [show p.length - k = p.length - (k + 1) + 1 by omega, show p.length - 1 - k = p.length - (k + 1) by omega, List.drop_eq_getElem_cons (show p.length - (k + 1) < p.length by omega)]
 simp only [evalP, List.getD_eq_getElem?_getD, List.getElem?_eq_getElem (show p.length - (k + 1) < p.length by omega), Option.getD_some]
theorem rq_zero' : rq 0 = r0 := by decide +kernel
theorem polynomial_Eval (l : List R3) (x : R3) (hn : l.length ≤ 1000) (hl : ∀ r ∈ l, RatOk r 5000000) (hx : RatOk x 5000000) (hk : ∀ k, k ≤ l.length → okQ 5000000 (hornK (l.map rv) (rv x) k)) : Ret Tryz.prog 60 [rsD l, rD x] (· = qD (evalP (l.map rv) (rv x))) := by
 have hb := slices_Backward l
 have hit := backward_iter l hn
 rw [show evalP (l.map rv) (rv x) = hornK (l.map rv) (rv x) l.length from by rw [← horn_all, List.length_map]]
 obtain ⟨H, hH⟩ : ∃ H, hornK (l.map rv) (rv x) = H := ⟨_, rfl⟩
 have h0 : H 0 = 0 := by rw [← hH]; exact horn_zero _ _
 have hs : ∀ k, k < l.length → H (k + 1) = H k * rv x + rv (l.getD ((l.length : Int) - 1 - k).toNat r0) := fun k hk => by
  rw [← hH, horn_succ (by simpa using hk), List.length_map, gRv (by omega), show ((l.length : Int) - 1 - k).toNat = l.length - 1 - k by omega]
 rw [hH] at hk ⊢
 clear hH
 refine ret_of_awpE tab Tryz.func60 rfl rfl (lblz rfl) (fun w0 F0 => ?_)
 refine awpE_seq ?_
 repeat' (first | refine wG ?_ | refine rg 4 4 ?_ | refine wS ?_ ?_ <;> intro _ | refine finG ?_)
 refine awpE_seq ?_
 repeat' (first | refine wG ?_ | refine rg 4 4 ?_ | refine wS ?_ ?_ <;> intro _ | refine finG ?_)
 refine awpE_seq2 ?_
 repeat' (first | refine wG ?_ | refine wC hb ?_ | refine rg 4 4 ?_ | refine wS ?_ ?_ <;> intro _ | refine finG ?_)
 refine awpEB_conv ((Conv.box 5 (rC r0) rfl leL).trans (Conv.box 4 (cs := [.bool false, .nils, .nils]) (rC r0) rfl leL)) ?_
 refine awpEB_slots [(3, .ptr 3 0), (4, .ptr 4 0), (5, .ptr 5 0), (9, .d (.fn 157 [.ptr [rsD l] 0]))] [(3, .box 27 ((rC x).map V.d)), (4, .box 27 ((rC r0).map V.d)), (5, .box 27 ((rC (rq (H 0))).map V.d))] ⟨rfl, rfl, rfl, rfl, rfl⟩ ⟨rfl, rfl, (by rw [h0, rq_zero']; rfl), trivial⟩ ?_
 refine awpEB_range (N := l.length) (bs := fun k => [(3, .box 27 ((rC x).map V.d)), (4, .box 27 ((rC r0).map V.d)), (5, .box 27 ((rC (rq (H k))).map V.d))]) (ks := [3, 4, 5]) ⟨fun k => rfl, fun k => rfl, fun k => rfl, fun k => ⟨rfl, rfl, rfl, trivial⟩, fun k => ⟨Nat.le_refl _, Nat.le_refl _, Nat.le_refl _, trivial⟩⟩ rfl hit rfl (lblz rfl) (lblz rfl) ?_ ?_
 ·intro k hk1 L w0 F0 A io0
  have g1 : RatOk (l.getD ((l.length : Int) - 1 - k).toNat r0) 5000000 := gMem hl (by omega)
  have g2 := hk k (by omega)
  have m1 := rational_Mul (rq (H k)) x (ok_rq (g2.mono (by decide))) (hx.up (by decide))
  have oq : okQ 10000000 (H k * rv x) := (g2.mul (okQ_rv hx (by decide))).mono (by decide)
  rw [rv_rq] at m1
  have a1 := rational_Add (rq (H k * rv x)) (l.getD ((l.length : Int) - 1 - k).toNat r0) (ok_rq (oq.mono (by decide))) (g1.up (by decide))
  rw [rv_rq, ← hs k hk1] at a1
  refine awpI_region ?_ nout
  repeat' (first | refine wG ?_ | refine rg 4 4 ?_ | refine wS ?_ ?_ <;> intro _ | refine finG ?_)
  intro w0 F0 A io0
  refine awpI_block (awpI_regE (ex := false) 4 [] nout mixed (by kernel_rfl) rfl rfl rfl ?_)
  repeat' (first | refine wG ?_ | refine wC m1 ?_ | refine wC a1 ?_ | refine rg 4 4 ?_ | refine wS ?_ ?_ <;> intro _ | refine finG ?_)
  exact ⟨rfl, rfl, rfl, rfl, trivial⟩
 ·intro D w0 F0 A io0
  refine awpI_seq (awpI_region ?_ nout)
  repeat' (first | refine wG ?_ | refine rg 4 4 ?_ | refine wS ?_ ?_ <;> intro _ | refine finG ?_)
  refine awpI_ret ?_
  repeat' (first | refine wG ?_ | refine rg 4 4 ?_ | refine wS ?_ ?_ <;> intro _ | refine finG ?_)
  rfl
theorem polynomial_Gcd (a b : List R3) (J : List Rat → List Rat → Prop) (ha : a.length ≤ 100) (hb : b.length ≤ 100) (ka : ∀ r ∈ a, RatOk r 10000000) (kb : ∀ r ∈ b, RatOk r 10000000) (hJ0 : J (trimP (a.map rv)) (trimP (b.map rv)))
    (hT : ∀ p q, J p q → Tr p ∧ Tr q ∧ p.length ≤ 1000 ∧ q.length ≤ 1000)
    (hS : ∀ p, (∃ q, J p q ∨ J q p) → p ≠ [] → Ret Tryz.prog 205 [qsD p, qD (p.getD ((p.length : Int) - 1).toNat 0)] (· = qsD (monicP p)))
    (hJ : ∀ p q, J p q → q ≠ [] → (∃ z, Ret Tryz.prog 151 [qsD p, qsD q] (· = .tup [qsD z, qsD (remP p q), .int .i64 0])) ∧ J (monicP q) (remP p q)) : Ret Tryz.prog 184 [rsD a, rsD b] (· = qsD (gcdP (trimP (a.map rv)) (trimP (b.map rv)))) := by
  have ta := polynomial_Trim a (by omega) ka
  have tb := polynomial_Trim b (by omega) kb
  generalize trimP (a.map rv) = p0 at *
  generalize trimP (b.map rv) = q0 at *
  obtain ⟨G, hG⟩ : ∃ G, gcdP p0 q0 = G := ⟨_, rfl⟩
  rw [hG]
  clear ka kb
  refine ret_of_awp tab Tryz.func184 rfl rfl (lblz rfl) (fun w0 F0 => ?_)
  repeat' (first | refine wG ?_ | refine wC ta ?_ | refine wC tb ?_ | refine wS ?_ ?_ <;> intro _ | refine finG ?_)
  refine awp_loop1 (fun (x : List Rat × List Rat) => ([(0, .d (qsD x.1)), (1, .d (qsD x.2))], [])) (fun x => J x.1 x.2 ∧ gcdP x.1 x.2 = G) (fun x => x.2.length) (p0, q0) ⟨hJ0, hG⟩ ⟨rfl, rfl, rfl⟩ trivial (fun x hx => ?_)
  obtain ⟨p, q⟩ := x
  obtain ⟨i1, i2⟩ := hx
  dsimp only at i1 i2 ⊢
  obtain ⟨t1, t2, t3, t4⟩ := hT p q i1
  by_cases hq : q = []
  · subst hq
    rw [gcdP_nil] at i2
    have h0 : ([] : List Rat).length = 0 := rfl
    by_cases hp : p = []
    · subst hp
      rw [← i2, monic_nil]
      clear hJ0 hT hS hJ ta tb
      repeat' (first | refine wG ?_ | refine wS ?_ ?_ <;> intro _ | (show retPost _ _ _ _ _; first | refine finF true rfl rfl sc ?_ | refine finF false rfl rfl sc ?_ | refine finC false rfl rfl sc sc ?_ | refine finN rfl rfl sc ?_ | refine finL true rfl rfl sc rfl (LeR.cons rfl leL LeR.nil) ?_ | refine finA true rfl rfl sc ?_ | refine finA false rfl rfl sc ?_ | refine finE true rfl rfl sc ?_ | refine finE false rfl rfl sc ?_))
      all_goals rfl
    · have s1 := hS p ⟨_, .inl i1⟩ hp
      have h1 := ne_len hp
      rw [i2] at s1
      clear hJ0 hT hS hJ ta tb
      repeat' (first | refine wG ?_ | refine wC s1 ?_ | refine wS ?_ ?_ <;> intro _ | refine finG ?_)
      rfl
  · have s1 := hS q ⟨_, .inr i1⟩ hq
    obtain ⟨⟨z, d1⟩, d2⟩ := hJ p q i1 hq
    have h1 := ne_len hq
    have st := gcdP_step t1 t2 hq (a := 1 / lead q) (b := 1) (by
      intro h
      have := lead_ne t2 hq
      have h2 : lead q * (1 / lead q) = 1 := by rw [Rat.div_def, Rat.one_mul]; exact Rat.mul_inv_cancel _ this
      rw [h, Rat.mul_zero] at h2
      exact absurd h2 (by decide)) (by decide)
    rw [smul_one, i2] at st
    have rl := rem_len t1 t2 hq
    have e : smul (1 / lead q) q = monicP q := rfl
    rw [e] at st
    generalize remP p q = r at *
    generalize monicP q = m at *
    clear hJ0 hT hS hJ ta tb e
    repeat' (first | refine wG ?_ | refine wC d1 ?_ | refine wC s1 ?_ | refine wS ?_ ?_ <;> intro _ | refine finG ?_)
    exact ⟨(m, r), ⟨d2, st.symm⟩, rl, ⟨rfl, rfl, rfl⟩, trivial⟩
theorem rational_AbsB (x : Rat) (h : okQ 10000000 x) : Ret Tryz.prog 134 [qD x] (· = qD (absQ x)) := by
 have sg := rational_SignQ x (h.mono (by decide))
 have n1 := rational_Neg (rq x) (ok_rq (h.mono (by decide)))
 rw [rv_rq] at n1
 have n2 := rational_Neg (rq (-x)) (ok_rq (h.neg.mono (by decide)))
 rw [rv_rq, Rat.neg_neg] at n2
 have hs : x.num.sign < 0 ↔ x < 0 := by rw [← num_lt0, ← Int.not_le, ← Int.not_le, Int.sign_nonneg_iff]
 generalize x.num.sign = s at *
 unfold absQ
 by_cases c : x < 0
 ·have hn := hs.2 c
  rw [if_pos c]
  clear hs
  refine ret_of_awp tab Tryz.func134 rfl rfl (lblz rfl) (fun w0 F0 => ?_)
  repeat' (first | refine wG ?_ | refine wC sg ?_ | refine wC n1 ?_ | refine wS ?_ ?_ <;> intro _ | refine finG ?_)
  rfl
 ·have hn := mt hs.1 c
  rw [if_neg c]
  clear hs
  refine ret_of_awp tab Tryz.func134 rfl rfl (lblz rfl) (fun w0 F0 => ?_)
  repeat' (first | refine wG ?_ | refine wC sg ?_ | refine wC n1 ?_ | refine wC n2 ?_ | refine wS ?_ ?_ <;> intro _ | refine finG ?_)
  rfl
theorem polynomial_small (p : List Rat) (hp : p.length ≤ 500) (kp : ∀ x ∈ p, okQ 5000000 x) (hT : Tr p) : Ret Tryz.prog 187 [qsD p] (· = qsD (smul (1 / absQ (lead p)) p)) := by
 by_cases h0 : p = []
 ·subst h0
  show Ret _ _ _ (· = qsD [])
  refine ret_of_awp tab Tryz.func187 rfl rfl (lblz rfl) (fun w0 F0 => ?_)
  repeat' (first | refine wG ?_ | refine wS ?_ ?_ <;> intro _ | (show retPost _ _ _ _ _; first | refine finF true rfl rfl sc ?_ | refine finF false rfl rfl sc ?_ | refine finC false rfl rfl sc sc ?_ | refine finN rfl rfl sc ?_ | refine finL true rfl rfl sc rfl (LeR.cons rfl leL LeR.nil) ?_ | refine finA true rfl rfl sc ?_ | refine finA false rfl rfl sc ?_ | refine finE true rfl rfl sc ?_ | refine finE false rfl rfl sc ?_))
  all_goals rfl
 ·have h1 := ne_len h0
  have e1 : ((p.length : Int) - 1).toNat = p.length - 1 := by omega
  have a1 := rational_AbsB (lead p) ((ok_cf kp (by decide) _).mono (by decide))
  have hab : absQ (lead p) ≠ 0 := by
   have := lead_ne hT h0
   unfold absQ
   split
   ·intro h; apply this; grind
   ·exact this
  have ka : okQ 5000000 (absQ (lead p)) := by
   have := ok_cf kp (by decide) (p.length - 1)
   unfold absQ
   split
   ·exact okQ.neg this
   ·exact this
  have s1 := polynomial_scaledQ p (absQ (lead p)) hp kp ka hab
  have a2 : Ret Tryz.prog 134 [qD (p.getD ((p.length : Int) - 1).toNat 0)] (· = qD (absQ (lead p))) := by rw [e1]; exact a1
  generalize smul (1 / absQ (lead p)) p = R at *
  generalize absQ (lead p) = y at *
  clear a1 kp
  refine ret_of_awp tab Tryz.func187 rfl rfl (lblz rfl) (fun w0 F0 => ?_)
  repeat' (first | refine wG ?_ | refine wC a2 ?_ | refine wC s1 ?_ | refine wS ?_ ?_ <;> intro _ | refine finG ?_)
  rfl
theorem counter_changes (F : List (List Rat)) (x : R3) (hF : F.length ≤ 1000) (he : ∀ i, i < F.length → Ret Tryz.prog 60 [qsD (F.getD i []), rD x] (· = qD (evalP (F.getD i []) (rv x))) ∧ okQ 10000000 (evalP (F.getD i []) (rv x))) : Ret Tryz.prog 207 [qssD F, rD x] (· = .int .i64 (chg 0 (F.map fun f => sgQ (evalP f (rv x))))) := by
 obtain ⟨S, hS⟩ : ∃ S, (F.map fun f => sgQ (evalP f (rv x))) = S := ⟨_, rfl⟩
 have hSl : S.length = F.length := by rw [← hS, List.length_map]
 have hSi : ∀ i, i < F.length → S.drop i = sgQ (evalP (F.getD i []) (rv x)) :: S.drop (i + 1) := fun i hi => by
  rw [List.drop_eq_getElem_cons (by omega)]
  congr 1
  subst hS
  simp [List.getD_eq_getElem?_getD, hi]
 rw [hS]
 clear hS
 obtain ⟨R, hR⟩ : ∃ R, chg 0 S = R := ⟨_, rfl⟩
 rw [hR]
 refine ret_of_awp tab Tryz.func207 rfl rfl (lblz rfl) (fun w0 F0 => ?_)
 repeat' (first | refine wG ?_ | refine wS ?_ ?_ <;> intro _ | refine finG ?_)
 refine awp_loop1 (fun (y : Int × Int × Nat) => ([(3, .ptr 3 0), (5, .d (.int .i64 y.1)), (6, .d (.int .i64 y.2.1)), (10, .d (qssD F)), (11, .d (.int .i64 F.length)), (12, .d (.int .i64 y.2.2))], [(3, .box 27 ((rC x).map V.d))])) (fun y => 0 ≤ y.1 ∧ y.1 ≤ y.2.2 ∧ -1 ≤ y.2.1 ∧ y.2.1 ≤ 1 ∧ y.2.2 ≤ F.length ∧ y.1 + chg y.2.1 (S.drop y.2.2) = R) (fun y => F.length - y.2.2) (0, 0, 0) ⟨by decide, by decide, by decide, by decide, Nat.zero_le _, by show 0 + chg 0 (S.drop 0) = R; rw [List.drop_zero, hR]; omega⟩ ⟨rfl, rfl, rfl, rfl, rfl, rfl, rfl⟩ ⟨rfl, trivial⟩ (fun y hy => ?_)
 obtain ⟨n, last, i⟩ := y
 obtain ⟨i1, i2, i3, i4, i5, i6⟩ := hy
 dsimp only at i1 i2 i3 i4 i5 i6 ⊢
 by_cases h3 : i < F.length
 ·obtain ⟨e1, e2⟩ := he i h3
  have e3 := rational_SignQ _ e2
  rw [hSi i h3, chg] at i6
  have b1 : -1 ≤ sgQ (evalP (F.getD i []) (rv x)) ∧ sgQ (evalP (F.getD i []) (rv x)) ≤ 1 := by
   unfold sgQ
   rcases Int.lt_trichotomy (evalP (F.getD i []) (rv x)).num 0 with h | h | h
   ·rw [Int.sign_eq_neg_one_of_neg h]; decide
   ·rw [h]; decide
   ·rw [Int.sign_eq_one_of_pos h]; decide
  have e4 : Ret Tryz.prog 38 [qD (evalP (F.getD i []) (rv x))] (· = .int .i64 (sgQ (evalP (F.getD i []) (rv x)))) := e3
  clear e3 e2 he hSi
  generalize sgQ (evalP (F.getD i []) (rv x)) = s at *
  generalize evalP (F.getD i []) (rv x) = v at *
  obtain ⟨b1, b2⟩ := b1
  by_cases c0 : s = 0
  ·rw [if_neg (by omega), if_neg (by omega)] at i6
   repeat' (first | refine wG ?_ | refine wC e1 ?_ | refine wC e4 ?_ | refine wS ?_ ?_ <;> intro _ | refine finG ?_)
   all_goals exact ⟨(n, last, i + 1), ⟨i1, by show n ≤ ((i + 1 : Nat) : Int); omega, i3, i4, h3, by rw [← i6]; show n + chg last (S.drop (i + 1)) = _; omega⟩, by show F.length - (i + 1) < F.length - i; omega, ⟨rfl, rfl, rfl, rfl, rfl, rfl, rfl⟩, rfl, trivial⟩
  ·rw [if_pos (show s ≠ 0 from c0)] at i6
   by_cases c1 : last ≠ 0 ∧ s ≠ last
   ·rw [if_pos ⟨c0, c1.1, c1.2⟩] at i6
    obtain ⟨c1, c2⟩ := c1
    repeat' (first | refine wG ?_ | refine wC e1 ?_ | refine wC e4 ?_ | refine wS ?_ ?_ <;> intro _ | refine finG ?_)
    all_goals exact ⟨(n + 1, s, i + 1), ⟨by show 0 ≤ n + 1; omega, by show n + 1 ≤ ((i + 1 : Nat) : Int); omega, b1, b2, h3, by rw [← i6]; show n + 1 + chg s (S.drop (i + 1)) = _; omega⟩, by show F.length - (i + 1) < F.length - i; omega, ⟨rfl, rfl, rfl, rfl, rfl, rfl, rfl⟩, rfl, trivial⟩
   ·rw [if_neg (fun h => c1 ⟨h.2.1, h.2.2⟩)] at i6
    repeat' (first | refine wG ?_ | refine wC e1 ?_ | refine wC e4 ?_ | refine wS ?_ ?_ <;> intro _ | refine finG ?_)
    all_goals exact ⟨(n, s, i + 1), ⟨i1, by show n ≤ ((i + 1 : Nat) : Int); omega, b1, b2, h3, by rw [← i6]; show n + chg s (S.drop (i + 1)) = _; omega⟩, by show F.length - (i + 1) < F.length - i; omega, ⟨rfl, rfl, rfl, rfl, rfl, rfl, rfl⟩, rfl, trivial⟩
 ·have e : i = F.length := by omega
  rw [e, List.drop_of_length_le (by omega), chg] at i6
  clear he hSi
  repeat' (first | refine wG ?_ | refine wS ?_ ?_ <;> intro _ | refine finG ?_)
  rw [← i6, Int.add_zero]
theorem polynomial_DivR (a : List R3) (d : List Rat) {h l : Nat} (hd : Tr d) (d0 : d ≠ []) (lp : a.length ≤ 100) (ka : ∀ r ∈ a, RatOk r 10000000) (ld : d.length ≤ 100) (H : HtP h (trimP (a.map rv))) (L : HtP l d) (hb : h + ((trimP (a.map rv)).length + 1 - d.length) * l + l ≤ 2000000) : Ret Tryz.prog 151 [rsD a, qsD d] (· = .tup [qsD (divP (trimP (a.map rv)) d).1, qsD (divP (trimP (a.map rv)) d).2, .int .i64 0]) := by
 have h1 := HtP.gt H
 obtain ⟨N, hN⟩ : ∃ N, (trimP (a.map rv)).length + 1 - d.length = N := ⟨_, rfl⟩
 rw [hN] at hb
 obtain ⟨K, hK⟩ : ∃ K, K = h + N * l + l := ⟨_, rfl⟩
 have hv := polynomial_Div a (d.map rq) K (fun r => ∃ k, k + (r.length + 1 - d.length) ≤ N ∧ HtP (h + k * l) r) lp (by rw [List.length_map]; exact ld) ka (rqs_ok fun x hx => (L.okL x hx).mono (by omega)) (by rw [map_rv_rqL, trim_of hd]; exact d0)
  ⟨0, by omega, H.mono (by omega)⟩
  (by
   rw [map_rv_rqL, trim_of hd]
   rintro r ⟨k, hk, hr⟩ tr hle
   refine ⟨k + 1, ?_, ?_⟩
   ·have := stepRP_len tr hd d0 hle; omega
   ·have := hr.stepRP L (lead_ne hd d0)
    refine this.mono ?_
    rw [Nat.add_mul, Nat.one_mul]; omega)
  (by
   rintro r ⟨k, hk, hr⟩ x hx
   refine (hr.okL x hx).mono ?_
   have := Nat.mul_le_mul_right l (show k ≤ N by omega)
   omega) (by omega) (by omega)
 rw [map_rv_rqL, trim_of hd] at hv
 exact hv.args (LeT.cons (LeD.refl _) (leQRs d (LeT.refl _)))
theorem polynomial_sturmJ (fid : FuncId) (ch : List Rat → List Rat) (hc : ChOk ch) (hf : ∀ p, Tr p → p.length ≤ 100 → (∀ x ∈ p, okQ 5000000 x) → Ret Tryz.prog fid [qsD p] (· = qsD (ch p))) (P : List R3) (hP : P.length ≤ 100) (kP : ∀ r ∈ P, RatOk r 5000000) (M : Nat) (hJ : JS (trimP (P.map rv)) (derP (P.map rv)) M) : Ret Tryz.prog 186 [rsD P, .fn fid []] (· = qssD (chainL ch (P.length + 1) (trimP (P.map rv)) (derP (P.map rv)))) := by
 have l1 := trim_len (P.map rv)
 have l2 : (derP (P.map rv)).length ≤ (derC (P.map rv)).length := trim_len (derC (P.map rv))
 rw [derC_len] at l2
 rw [List.length_map] at l1 l2
 refine polynomial_sturm fid ch (fun a b => a.length ≤ 100 ∧ b.length ≤ 100 ∧ ∃ M, JS a b M) P hP kP ⟨by omega, by omega, M, hJ⟩ (fun a b hab a0 b0 => ?_) (fun a b h => ⟨h.1, h.2.1⟩)
 obtain ⟨g1, g2, M, g3⟩ := hab
 obtain ⟨h1, _, h3, h4, h5⟩ := g3.rem a0 b0
 have tr := tr_rem g3.ta g3.tb b0
 have hl := rem_len g3.ta g3.tb b0
 have nl : (negC (remP a b)).length = (remP a b).length := len_smul _ _
 have o1 : ∀ x ∈ remP a b, okQ 5000000 x := fun x hx => (h1.okL x hx).mono (by omega)
 have o2 : ∀ x ∈ negC (remP a b), okQ 5000000 x := fun x hx => (h1.neg.okL x hx).mono (by omega)
 refine ⟨⟨_, polynomial_DivQ a b g3.ta g3.tb b0 g1 g2 g3.ha g3.hb h3⟩, polynomial_negativeQ _ tr (by omega) o1, hf _ (tr_neg tr) (by omega) o2, ⟨g2, ?_, g3.next hc a0 b0⟩, ?_⟩
 ·rw [hc.len, nl]; omega
 ·rw [hc.len, nl]; exact hl
theorem polynomial_GcdJ (a b : List R3) (ha : a.length ≤ 99) (hb : b.length ≤ 99) (ka : ∀ r ∈ a, RatOk r 10000000) (kb : ∀ r ∈ b, RatOk r 10000000) (hJ : JG (trimP (a.map rv)) (trimP (b.map rv))) : Ret Tryz.prog 184 [rsD a, rsD b] (· = qsD (gcdP (trimP (a.map rv)) (trimP (b.map rv)))) := by
 have l1 := trim_len (a.map rv)
 have l2 := trim_len (b.map rv)
 rw [List.length_map] at l1 l2
 have sc : ∀ p M, Tr p → p ≠ [] → p.length ≤ 100 → HtP M p → M ≤ 2000000 → Ret Tryz.prog 205 [qsD p, qD (p.getD ((p.length : Int) - 1).toNat 0)] (· = qsD (monicP p)) := fun p M t p0 pl hM hle => by
  have e1 : ((p.length : Int) - 1).toNat = p.length - 1 := by have := ne_len p0; omega
  rw [e1]
  exact polynomial_scaledQ p (lead p) (by omega) (fun x hx => (hM.okL x hx).mono (by omega)) ((hM.ok _).mono (by omega)) (lead_ne t p0)
 have fitM : ∀ M n, (M + 1) * 3 ^ n ≤ Bud → M ≤ 2000000 := fun M n h => by
  have := Nat.mul_le_mul_left (M + 1) (show 1 ≤ 3 ^ n from Nat.pow_pos (by decide))
  unfold Bud at h
  omega
 refine polynomial_Gcd a b (fun p q => p.length ≤ 100 ∧ q.length ≤ 100 ∧ JG p q) (by omega) (by omega) ka kb ⟨by omega, by omega, hJ⟩ (fun p q h => ⟨h.2.2.tp, h.2.2.tq, by omega, by omega⟩) (fun p hp p0 => ?_) (fun p q h q0 => ?_)
 ·obtain ⟨q, ⟨g1, g2, g3⟩ | ⟨g1, g2, g3⟩⟩ := hp
  ·obtain ⟨M, h1, h2, h3⟩ := g3.fit
   exact sc p M g3.tp p0 g1 h1 (fitM _ _ h3)
  ·obtain ⟨M, h1, h2, h3⟩ := g3.fit
   exact sc p M g3.tq p0 g2 h2 (fitM _ _ h3)
 ·obtain ⟨g1, g2, g3⟩ := h
  obtain ⟨M, h1, h2, h3, h4⟩ := g3.step q0
  have hl := rem_len g3.tp g3.tq q0
  exact ⟨⟨_, polynomial_DivQ p q g3.tp g3.tq q0 g1 g2 h1 h2 h3⟩, by rw [show (monicP q).length = q.length from len_smul _ _]; exact g2, by omega, h4⟩
def smallP (p : List Rat) : List Rat := smul (1 / absQ (lead p)) p
theorem smallP_eq (p : List Rat) : smallP p = if lead p < 0 then negC (monicP p) else monicP p := by
 unfold smallP absQ monicP negC
 split
 ·rename_i h
  rw [smul_smul]
  congr 1
  have h0 : lead p ≠ 0 := fun e => by rw [e] at h; exact absurd h (by decide)
  have h1 : lead p * (lead p)⁻¹ = 1 := Rat.mul_inv_cancel _ h0
  have h2 : -lead p * (-lead p)⁻¹ = 1 := Rat.mul_inv_cancel _ (fun e => h0 (by grind))
  rw [Rat.div_def, Rat.div_def]
  have h3 : (-lead p)⁻¹ = (lead p * (lead p)⁻¹) * (-lead p)⁻¹ := by rw [h1, Rat.one_mul]
  have h4 : (lead p * (lead p)⁻¹) * (-lead p)⁻¹ = -((-lead p * (-lead p)⁻¹) * (lead p)⁻¹) := by grind
  rw [h2] at h4
  rw [h3, h4]
  grind
 ·rfl
theorem chOk_small : ChOk smallP := ⟨fun p h => by
    rw [smallP_eq]; split
    · exact tr_neg (tr_monic h)
    · exact tr_monic h, fun p => len_smul _ _, fun p h t H => by
    rw [smallP_eq]; split
    · exact H.monic.neg
    · exact H.monic⟩
theorem horn_ok {p : List Rat} {x : Rat} {K L : Nat} (hp : ∀ y ∈ p, okQ K y) (hx : okQ L x) (hK : 1 < K) : ∀ k, k ≤ p.length → okQ (2 + k * (K + L)) (hornK p x k)
 | 0, _ => by rw [horn_zero]; exact okQ_zero (by omega)
 | k + 1, h => by
  rw [horn_succ (by omega)]
  have := ((horn_ok hp hx hK k (by omega)).mul hx).add (ok_cf hp hK (p.length - 1 - k))
  refine okQ.mono this ?_
  rw [Nat.add_mul]; omega
theorem polynomial_EvalF (f : List Rat) (x : R3) {M : Nat} (hf : Fit f.length f M) (hl : f.length ≤ 13) (hx : RatOk x 200000) : Ret Tryz.prog 60 [qsD f, rD x] (· = qD (evalP f (rv x))) ∧ okQ 10000000 (evalP f (rv x)) := by
 obtain ⟨h1, h2⟩ := hf
 have m1 := HtP.gt h1
 have hk : f.length * M ≤ 2000000 := by
  have a1 := Nat.mul_le_mul (show M ≤ M + 1 by omega) (Nat.le_trans (Nat.le_succ f.length) (len_lt_pow3 f.length))
  rw [Nat.mul_comm] at a1
  unfold Bud at h2
  omega
 have hM : M ≤ 2000000 := by
  have := Nat.mul_le_mul_left (M + 1) (show 1 ≤ 3 ^ f.length from Nat.pow_pos (by decide))
  unfold Bud at h2
  omega
 have ho : ∀ k, k ≤ f.length → okQ 5000000 (hornK f (rv x) k) := fun k hk2 => by
  refine (horn_ok h1.okL (okQ_rv hx (by decide)) m1 k hk2).mono ?_
  have a1 := Nat.mul_le_mul_right M hk2
  have a2 := Nat.mul_le_mul_right 200000 hk2
  rw [Nat.mul_add]
  omega
 have he := polynomial_Eval (f.map rq) x (by rw [List.length_map]; omega) (rqs_ok fun y hy => (h1.okL y hy).mono (by omega)) (hx.up (by decide)) (by rw [map_rv_rqL, List.length_map]; exact ho)
 rw [map_rv_rqL] at he
 refine ⟨he.args (leQRs f (LeT.refl _)), ?_⟩
 have := ho f.length (Nat.le_refl _)
 rw [horn_all] at this
 exact this.mono (by decide)
theorem derP_trim (p : List Rat) : derP (trimP p) = derP p := trim_ext fun i => by rw [cf_der, cf_der, cf_trim]
def ctrQ (p : List Rat) : List Rat := (divP p (gcdP p (derP p))).1
def ctr (p : List Rat) : List (List Rat) := chainL smallP ((ctrQ p).length + 1) (ctrQ p) (derP (ctrQ p))
structure CtrOk (p : List Rat) : Prop where
 g0 : gcdP p (derP p) ≠ []
 tg : Tr (gcdP p (derP p))
 jg : JG p (derP p)
 gl : (gcdP p (derP p)).length ≤ 98
 fit1 : ∃ h l, HtP h p ∧ HtP l (gcdP p (derP p)) ∧ h + (p.length + 1 - (gcdP p (derP p)).length) * l + l ≤ 2000000
 ql : (ctrQ p).length ≤ 98
 fit2 : ∃ M, JS (ctrQ p) (derP (ctrQ p)) M
theorem polynomial_newCounter (P : List R3) (hP : P.length ≤ 99) (kP : ∀ r ∈ P, RatOk r 5000000) (hc : CtrOk (trimP (P.map rv))) : Ret Tryz.prog 153 [rsD P] (· = qssD (ctr (trimP (P.map rv)))) := by
 have d1 := polynomial_Derivative P (by omega) kP
 rw [← derP_trim] at d1
 have hdl : (derP (trimP (P.map rv))).length ≤ 99 := by
  have h1 := trim_len (derC (trimP (P.map rv)))
  have h2 := trim_len (P.map rv)
  rw [derC_len] at h1
  rw [List.length_map] at h2
  show (trimP (derC _)).length ≤ 99
  omega
 obtain ⟨M, m1, m2, m3⟩ := hc.jg.fit
 have hM : M ≤ 2000000 := by
  have := Nat.mul_le_mul_left (M + 1) (show 1 ≤ 3 ^ (if (derP (trimP (P.map rv))).length < (trimP (P.map rv)).length then (trimP (P.map rv)).length else (derP (trimP (P.map rv))).length + 1) from Nat.pow_pos (by decide))
  unfold Bud at m3
  omega
 have g1 := polynomial_GcdJ P ((derP (trimP (P.map rv))).map rq) hP (by rw [List.length_map]; exact hdl) (fun r hr => (kP r hr).up (by decide)) (rqs_ok fun x hx => (m2.okL x hx).mono (by omega)) (by rw [map_rv_rqL, show trimP (derP (trimP (P.map rv))) = derP (trimP (P.map rv)) from trim_trim _]; exact hc.jg)
 rw [map_rv_rqL, show trimP (derP (trimP (P.map rv))) = derP (trimP (P.map rv)) from trim_trim _] at g1
 have g2 : Ret Tryz.prog 184 [rsD P, qsD (derP (trimP (P.map rv)))] (· = qsD (gcdP (trimP (P.map rv)) (derP (trimP (P.map rv))))) := g1.args (LeT.cons (LeD.refl _) (leQRs _ (LeT.refl _)))
 obtain ⟨h, l, f1, f2, f3⟩ := hc.fit1
 have v1 := polynomial_DivR P (gcdP (trimP (P.map rv)) (derP (trimP (P.map rv)))) hc.tg hc.g0 (by omega) (fun r hr => (kP r hr).up (by decide)) (by have := hc.gl; omega) f1 f2 f3
 obtain ⟨M2, f4⟩ := hc.fit2
 have ql := hc.ql
 have hM2 : M2 ≤ 2000000 := by
  have b := f4.bud
  have := Nat.mul_le_mul_left (M2 + 1) (show 1 ≤ 3 ^ (ctrQ (trimP (P.map rv))).length from Nat.pow_pos (by decide))
  unfold Bud at b
  omega
 have s1 := polynomial_sturmJ 187 smallP chOk_small (fun p t pl ok => polynomial_small p (by omega) ok t) ((ctrQ (trimP (P.map rv))).map rq) (by rw [List.length_map]; omega) (rqs_ok fun x hx => (f4.ha.okL x hx).mono (by omega)) M2 (by rw [map_rv_rqL, trim_of f4.ta]; exact f4)
 rw [map_rv_rqL, trim_of f4.ta, List.length_map] at s1
 have s2 : Ret Tryz.prog 186 [qsD (ctrQ (trimP (P.map rv))), .fn 187 []] (· = qssD (ctr (trimP (P.map rv)))) := s1.args (leQRs _ (LeT.refl _))
 rw [show (divP (trimP (P.map rv)) (gcdP (trimP (P.map rv)) (derP (trimP (P.map rv))))).1 = ctrQ (trimP (P.map rv)) from rfl] at v1
 clear hc f1 f2 f3 f4 m1 m2 m3 g1 s1 kP ql hdl
 generalize ctr (trimP (P.map rv)) = C at *
 generalize ctrQ (trimP (P.map rv)) = Q at *
 generalize (divP (trimP (P.map rv)) (gcdP (trimP (P.map rv)) (derP (trimP (P.map rv))))).2 = Z at *
 generalize gcdP (trimP (P.map rv)) (derP (trimP (P.map rv))) = G at *
 generalize derP (trimP (P.map rv)) = E at *
 refine ret_of_awp tab Tryz.func153 rfl rfl (lblz rfl) (fun w0 F0 => ?_)
 repeat' (first | refine wG ?_ | refine wC d1 ?_ | refine wC g2 ?_ | refine wC v1 ?_ | refine wC s2 ?_ | refine wS ?_ ?_ <;> intro _ | refine finG ?_)
 rfl
def vrsF (F : List (List Rat)) (x : Rat) : Int := chg 0 (F.map fun f => sgQ (evalP f x))
def cntF (F : List (List Rat)) (lo hi : Rat) : Int := if lo < hi then vrsF F lo - vrsF F hi else 0
theorem chg_bd : ∀ (l : List Int) (a : Int), 0 ≤ chg a l ∧ chg a l ≤ l.length
 | [], _ => ⟨Int.le_refl _, Int.le_refl _⟩
 | s :: l, a => by
  rw [chg]
  have := chg_bd l (if s ≠ 0 then s else a)
  simp only [List.length_cons]
  split <;> omega
theorem counter_count (F : List (List Rat)) (lo hi : R3) (hF : F.length ≤ 1000) (hf : ∀ f ∈ F, f.length ≤ 13 ∧ ∃ M, Fit f.length f M) (kl : RatOk lo 200000) (kh : RatOk hi 200000) : Ret Tryz.prog 188 [qssD F, rD lo, rD hi] (· = .int .i64 (cntF F (rv lo) (rv hi))) := by
 have gF : ∀ i, i < F.length → F.getD i [] ∈ F := fun i hi => by
  rw [List.getD_eq_getElem?_getD, List.getElem?_eq_getElem hi]; exact List.getElem_mem hi
 have ch : ∀ x, RatOk x 200000 → Ret Tryz.prog 207 [qssD F, rD x] (· = .int .i64 (vrsF F (rv x))) := fun x hx => counter_changes F x hF fun i hi => by
  obtain ⟨h1, M, h2⟩ := hf _ (gF i hi)
  exact polynomial_EvalF _ x h2 h1 hx
 have c1 := ch lo kl
 have c2 := ch hi kh
 have cm := rational_Compare lo hi (kl.up (by decide)) (kh.up (by decide))
 have b1 : 0 ≤ vrsF F (rv lo) ∧ vrsF F (rv lo) ≤ 1000 := by
  have := chg_bd (F.map fun f => sgQ (evalP f (rv lo))) 0
  rw [List.length_map] at this
  unfold vrsF; omega
 have b2 : 0 ≤ vrsF F (rv hi) ∧ vrsF F (rv hi) ≤ 1000 := by
  have := chg_bd (F.map fun f => sgQ (evalP f (rv hi))) 0
  rw [List.length_map] at this
  unfold vrsF; omega
 unfold cntF
 unfold cmpQ at cm
 generalize vrsF F (rv lo) = n1 at *
 generalize vrsF F (rv hi) = n2 at *
 clear ch hf gF
 by_cases h : rv lo < rv hi
 ·rw [if_pos h]
  rw [if_pos h] at cm
  refine ret_of_awp tab Tryz.func188 rfl rfl (lblz rfl) (fun w0 F0 => ?_)
  repeat' (first | refine wG ?_ | refine wC cm ?_ | refine wC c1 ?_ | refine wC c2 ?_ | refine rg 3 5 ?_ | refine wS ?_ ?_ <;> intro _ | refine finG ?_)
  rfl
 ·rw [if_neg h]
  rw [if_neg h] at cm
  obtain ⟨z, hz⟩ : ∃ z : Int, z = (if rv hi < rv lo then 1 else 0) := ⟨_, rfl⟩
  rw [← hz] at cm
  have z0 : 0 ≤ z := by rw [hz]; split <;> decide
  clear hz
  refine ret_of_awp tab Tryz.func188 rfl rfl (lblz rfl) (fun w0 F0 => ?_)
  repeat' (first | refine wG ?_ | refine wC cm ?_ | refine wC c1 ?_ | refine wC c2 ?_ | refine rg 3 5 ?_ | refine wS ?_ ?_ <;> intro _ | refine finG ?_)
  rfl
theorem polynomial_Count (P : List R3) (lo hi : R3) (hP : P.length ≤ 99) (kP : ∀ r ∈ P, RatOk r 5000000) (hc : trimP (P.map rv) ≠ [] → CtrOk (trimP (P.map rv))) (kl : RatOk lo 200000) (kh : RatOk hi 200000) : Ret Tryz.prog 155 [rsD P, rD lo, rD hi] (· = .int .i64 (if trimP (P.map rv) = [] then -1 else cntF (ctr (trimP (P.map rv))) (rv lo) (rv hi))) := by
 have t1 := polynomial_Trim P (by omega) (fun r hr => (kP r hr).up (by decide))
 have l1 := trim_len (P.map rv)
 rw [List.length_map] at l1
 by_cases h0 : trimP (P.map rv) = []
 ·rw [if_pos h0]
  have hl : (trimP (P.map rv)).length = 0 := by rw [h0]; rfl
  generalize trimP (P.map rv) = p at *
  clear kP hc
  refine ret_of_awp tab Tryz.func155 rfl rfl (lblz rfl) (fun w0 F0 => ?_)
  repeat' (first | refine wG ?_ | refine wC t1 ?_ | refine rg 3 4 ?_ | refine wS ?_ ?_ <;> intro _ | refine finG ?_)
  rfl
 ·rw [if_neg h0]
  have hl := ne_len h0
  have hk := hc h0
  have n1 := polynomial_newCounter P hP kP hk
  obtain ⟨M, f⟩ := hk.fit2
  have hfit := f.chain chOk_small ((ctrQ (trimP (P.map rv))).length + 1)
  have cln := chain_len smallP ((ctrQ (trimP (P.map rv))).length + 1) (ctrQ (trimP (P.map rv))) (derP (ctrQ (trimP (P.map rv))))
  have ql := hk.ql
  have c1 := counter_count (ctr (trimP (P.map rv))) lo hi (by unfold ctr; omega) (fun g hg => by
   obtain ⟨g1, M', g2⟩ := hfit g hg
   refine ⟨?_, M', g2⟩
   have b := g2.2
   have b2 := len_lt_pow3 g.length
   by_cases g0 : g.length ≤ 13
   ·omega
   ·exfalso
    have b3 := Nat.pow_le_pow_right (show 0 < 3 by decide) (show 14 ≤ g.length by omega)
    have b4 := Nat.mul_le_mul_right (3 ^ g.length) (show 1 ≤ M' + 1 by omega)
    have b5 : (3 : Nat) ^ 14 = 4782969 := by decide
    unfold Bud at b
    omega) kl kh
  generalize cntF (ctr (trimP (P.map rv))) (rv lo) (rv hi) = v at *
  generalize ctr (trimP (P.map rv)) = C at *
  generalize trimP (P.map rv) = p at *
  clear kP hc hk f hfit
  refine ret_of_awp tab Tryz.func155 rfl rfl (lblz rfl) (fun w0 F0 => ?_)
  repeat' (first | refine wG ?_ | refine wC t1 ?_ | refine wC n1 ?_ | refine wC c1 ?_ | refine rg 3 4 ?_ | refine wS ?_ ?_ <;> intro _ | refine finG ?_)
  rfl
theorem okR_of {q : Rat} {k : Nat} (h : okQ k q) (hk : k ≤ 1000000000000) : okR 1000000000000 (rq q) := ⟨Nat.lt_of_lt_of_le (ok_rq h).lm hk, Nat.lt_of_lt_of_le (ok_rq h).ld hk⟩
theorem ref04_Same (a b c d : R3) (ha : okR 1000000000000 a) (hb : okR 1000000000000 b) (hc : okR 1000000000000 c) (hd : okR 1000000000000 d) : Ret Tryz.prog 14 [iD a b, iD c d] (· = .bool (decide (a = c) && decide (b = d))) := by
 have h1 := ref03_Same a c ha hc
 have h2 := ref03_Same b d hb hd
 generalize decide (a = c) = x at *
 generalize decide (b = d) = y at *
 cases x <;> cases y
 all_goals
  refine ret_of_awp tab Tryz.func14 rfl rfl (lblz rfl) (fun w0 F0 => ?_)
  repeat' (first | refine wG ?_ | refine wC h1 ?_ | refine wC h2 ?_ | refine wS ?_ ?_ <;> intro _ | refine finG ?_)
  rfl
theorem ref04_SameI (i j : I2) (hi : okI 10000000 i) (hj : okI 10000000 j) : Ret Tryz.prog 14 [iQ i, iQ j] (· = .bool (decide (i = j))) := by
 have := ref04_Same (rq i.1) (rq i.2) (rq j.1) (rq j.2) (okR_of hi.1 (by decide)) (okR_of hi.2 (by decide)) (okR_of hj.1 (by decide)) (okR_of hj.2 (by decide))
 have e : (decide (rq i.1 = rq j.1) && decide (rq i.2 = rq j.2)) = decide (i = j) := by
  rw [← Bool.decide_and]
  refine decide_eq_decide.2 ⟨fun h => Prod.ext (rq_inj h.1) (rq_inj h.2), fun h => by rw [h]; exact ⟨rfl, rfl⟩⟩
 rw [e] at this
 exact this
set_option maxHeartbeats 4000000
theorem interval_hull (x : Rat) (l : List Rat) (hl : l.length < 10000000) (h : ∀ q ∈ x :: l, okQ 2000000 q) : Ret Tryz.prog 88 [qD x, qsD l] (· = iQ (hullL x l)) := by
 have hx : okQ 2000000 x := h x (List.mem_cons_self ..)
 have h' : ∀ q ∈ l, okQ 2000000 q := fun q hq => h q (List.mem_cons_of_mem _ hq)
 refine ret_of_awp tab Tryz.func88 rfl rfl (lblz rfl) (fun w0 F0 => ?_)
 repeat' (first | refine wG ?_ | refine rg 10 5 ?_ | refine wS ?_ ?_ <;> intro _ | refine finG ?_)
 refine awp_loop1 (fun (i : Nat) => ([(11, .d (qsD l)), (12, .d (.int .i64 l.length)), (13, .d (.int .i64 i)), (4, .ptr 4 0), (5, .ptr 5 0)], [(4, .box 32 zI), (5, .box 32 ((iC (rq ((l.take i).foldl minQ x)) (rq ((l.take i).foldl maxQ x))).map V.d))])) (fun i => i ≤ l.length) (fun i => l.length - i) 0 (by omega) ?_ ?_ (fun i hi => ?_)
 ·exact ⟨rfl, rfl, rfl, rfl, rfl, rfl⟩
 ·exact ⟨rfl, rfl, trivial⟩
 by_cases h3 : i < l.length
 ·have hk := take_ok (k := 2000000) hx h' i
  have hg := getD_ok h' h3
  have e1 := foldl_take minQ x l h3
  have e2 := foldl_take maxQ x l h3
  obtain ⟨y, hy⟩ : ∃ y, l.getD i 0 = y := ⟨_, rfl⟩
  rw [hy] at e1 e2 hg
  obtain ⟨m, hm⟩ : ∃ m, (l.take i).foldl minQ x = m := ⟨_, rfl⟩
  obtain ⟨n, hn⟩ : ∃ n, (l.take i).foldl maxQ x = n := ⟨_, rfl⟩
  rw [hm] at e1
  rw [hn] at e2
  have hk1 := hk.1
  have hk2 := hk.2
  rw [hm] at hk1
  rw [hn] at hk2
  rw [hm, hn]
  have c1 := rational_CompareQ y m (hg.mono (by decide)) (hk1.mono (by decide))
  have c2 := rational_CompareQ y n (hg.mono (by decide)) (hk2.mono (by decide))
  have p1 := cmpQ_neg y m
  have p2 := cmpQ_pos y n
  obtain ⟨u, hu⟩ : ∃ u, cmpQ y m = u := ⟨_, rfl⟩
  obtain ⟨v, hv⟩ : ∃ v, cmpQ y n = v := ⟨_, rfl⟩
  rw [hu] at c1 p1
  rw [hv] at c2 p2
  rw [← hy] at c1 c2
  rw [show minQ m y = if y < m then y else m from rfl] at e1
  rw [show maxQ n y = if n < y then y else n from rfl] at e2
  by_cases b1 : y < m
  ·have u1 := p1.2 b1
   rw [if_pos b1] at e1
   by_cases b2 : n < y
   ·have v1 := p2.2 b2
    rw [if_pos b2] at e2
    clear p1 p2 hk hm hn
    repeat' (first | refine wG ?_ | refine wC c1 ?_ | refine wC c2 ?_ | refine rg 10 5 ?_ | refine wS ?_ ?_ <;> intro _ | refine finG ?_)
    exact ⟨i + 1, by omega, by omega, ⟨rfl, rfl, iv (by omega), rfl, rfl, rfl⟩, rfl, by rw [e1, e2, ← hy]; rfl, trivial⟩
   ·have v1 := mt p2.1 b2
    rw [if_neg b2] at e2
    clear p1 p2 hk hm hn
    repeat' (first | refine wG ?_ | refine wC c1 ?_ | refine wC c2 ?_ | refine rg 10 5 ?_ | refine wS ?_ ?_ <;> intro _ | refine finG ?_)
    exact ⟨i + 1, by omega, by omega, ⟨rfl, rfl, iv (by omega), rfl, rfl, rfl⟩, rfl, by rw [e1, e2, ← hy]; rfl, trivial⟩
  ·have u1 := mt p1.1 b1
   rw [if_neg b1] at e1
   by_cases b2 : n < y
   ·have v1 := p2.2 b2
    rw [if_pos b2] at e2
    clear p1 p2 hk hm hn
    repeat' (first | refine wG ?_ | refine wC c1 ?_ | refine wC c2 ?_ | refine rg 10 5 ?_ | refine wS ?_ ?_ <;> intro _ | refine finG ?_)
    exact ⟨i + 1, by omega, by omega, ⟨rfl, rfl, iv (by omega), rfl, rfl, rfl⟩, rfl, by rw [e1, e2, ← hy]; rfl, trivial⟩
   ·have v1 := mt p2.1 b2
    rw [if_neg b2] at e2
    clear p1 p2 hk hm hn
    repeat' (first | refine wG ?_ | refine wC c1 ?_ | refine wC c2 ?_ | refine rg 10 5 ?_ | refine wS ?_ ?_ <;> intro _ | refine finG ?_)
    exact ⟨i + 1, by omega, by omega, ⟨rfl, rfl, iv (by omega), rfl, rfl, rfl⟩, rfl, by rw [e1, e2]; rfl, trivial⟩
 ·have e : l.take i = l := List.take_of_length_le (by omega)
  rw [e]
  have ho := hullL_ok l x x hx hx h'
  have n1 := interval_numberQ (l.foldl minQ x) (ho.1.mono (by decide))
  have n2 := interval_numberQ (l.foldl maxQ x) (ho.2.mono (by decide))
  unfold hullL
  generalize l.foldl minQ x = m at *
  generalize l.foldl maxQ x = n at *
  repeat' (first | refine wG ?_ | refine wC n1 ?_ | refine wC n2 ?_ | refine rg 10 5 ?_ | refine wS ?_ ?_ <;> intro _ | refine finG ?_)
  rfl
theorem interval_Hull (a b c d : R3) (ha : RatOk a 500000) (hb : RatOk b 500000) (hc : RatOk c 500000) (hd : RatOk d 500000) : Ret Tryz.prog 40 [iD a b, iD c d] (· = iQ (hullI (takeI (rv a) (rv b)) (takeI (rv c) (rv d)))) := by
 have t1 := interval_value a b ha hb
 have o1 := takeI_ok (k := 500000) (okQ_rv ha (by decide)) (okQ_rv hb (by decide)) (by decide)
 have q1 := takeI_le (rv a) (rv b)
 generalize takeI (rv a) (rv b) = i at *
 obtain ⟨p, q⟩ := i
 obtain ⟨op, oq⟩ := o1
 simp only at op oq q1
 have t2 := interval_value c d hc hd
 have o2 := takeI_ok (k := 500000) (okQ_rv hc (by decide)) (okQ_rv hd (by decide)) (by decide)
 have q2 := takeI_le (rv c) (rv d)
 generalize takeI (rv c) (rv d) = j at *
 obtain ⟨s, t⟩ := j
 obtain ⟨os, ot⟩ := o2
 simp only at os ot q2
 have hh := interval_hull p [q, s, t] (by simp) (by
  intro x hx
  simp only [List.mem_cons, List.not_mem_nil, or_false] at hx
  rcases hx with h | h | h | h <;> rw [h]
  ·exact op.mono (by decide)
  ·exact oq.mono (by decide)
  ·exact os.mono (by decide)
  ·exact ot.mono (by decide))
 refine ret_of_awp tab Tryz.func40 rfl rfl (lblz rfl) (fun w0 F0 => ?_)
 repeat' (first | refine wG ?_ | refine wC t1 ?_ | refine wC t2 ?_ | refine wC hh ?_ | refine rg 1 3 ?_ | refine wS ?_ ?_ <;> intro _ | refine finG ?_)
 rfl
theorem interval_Width (a b : R3) (ha : RatOk a 500000) (hb : RatOk b 500000) : Ret Tryz.prog 110 [iD a b] (· = qD ((takeI (rv a) (rv b)).2 - (takeI (rv a) (rv b)).1)) := by
 have t1 := interval_value a b ha hb
 have o1 := takeI_ok (k := 500000) (okQ_rv ha (by decide)) (okQ_rv hb (by decide)) (by decide)
 have q1 := takeI_le (rv a) (rv b)
 generalize takeI (rv a) (rv b) = i at *
 obtain ⟨p, q⟩ := i
 obtain ⟨op, oq⟩ := o1
 simp only at op oq q1
 have m1 := rational_SubQ q p (oq.mono (by decide)) (op.mono (by decide))
 refine ret_of_awp tab Tryz.func110 rfl rfl (lblz rfl) (fun w0 F0 => ?_)
 repeat' (first | refine wG ?_ | refine wC t1 ?_ | refine wC m1 ?_ | refine wS ?_ ?_ <;> intro _ | refine finG ?_)
 rfl
theorem interval_Mid (a b : R3) (ha : RatOk a 500000) (hb : RatOk b 500000) : Ret Tryz.prog 55 [iD a b] (· = qD (((takeI (rv a) (rv b)).1 + (takeI (rv a) (rv b)).2) / 2)) := by
 have t1 := interval_value a b ha hb
 have o1 := takeI_ok (k := 500000) (okQ_rv ha (by decide)) (okQ_rv hb (by decide)) (by decide)
 have q1 := takeI_le (rv a) (rv b)
 generalize takeI (rv a) (rv b) = i at *
 obtain ⟨p, q⟩ := i
 obtain ⟨op, oq⟩ := o1
 simp only at op oq q1
 have m1 := rational_AddQ p q (op.mono (by decide)) (oq.mono (by decide))
 have m2 := rational_FromIntQ 2 (by decide) (by decide)
 have o2 : okQ 10000000 ((2 : Int) : Rat) := okQ_int (by decide)
 have m3 := rational_DivQ (p + q) ((2 : Int) : Rat) ((op.add oq).mono (by decide)) o2
 rw [if_neg (by decide)] at m3
 refine ret_of_awp tab Tryz.func55 rfl rfl (lblz rfl) (fun w0 F0 => ?_)
 repeat' (first | refine wG ?_ | refine wC t1 ?_ | refine wC m1 ?_ | refine wC m2 ?_ | refine wC m3 ?_ | refine wS ?_ ?_ <;> intro _ | refine finG ?_)
 rfl
set_option maxHeartbeats 8000000
set_option maxHeartbeats 4000000
set_option maxHeartbeats 8000000
def smB (l : List Rat) : Bool := l.all fun x => decide (x.num.natAbs < 4294967296) && decide (x.den < 4294967296)
set_option maxHeartbeats 4000000
set_option maxHeartbeats 8000000
theorem clamp_ok {d k : Rat} {n m : Nat} (hd : okQ n d) (hk : okQ m k) (hn : n ≤ m) : okQ m (clampQ d k) := by
 unfold clampQ
 split
 ·exact hk.neg
 ·split
  ·exact hk
  ·exact hd.mono hn
theorem hub_ok {k t : Rat} {n : Nat} (hk : okQ n k) (ht : okQ n t) (h1 : 1 < n) : ∀ {x : List Rat}, (∀ v ∈ x, okQ n v) → okQ (2 + x.length * (2 * n)) (hub x k t)
 | [], _ => okQ_zero (by omega)
 | v :: x, h => by
  have ih := hub_ok hk ht h1 (x := x) fun u hu => h u (List.mem_cons_of_mem _ hu)
  have c := clamp_ok ((h v List.mem_cons_self).sub ht) (hk.mono (show n ≤ n + n by omega)) (Nat.le_refl _)
  have := c.add ih
  refine okQ.mono this ?_
  rw [List.length_cons, Nat.add_mul]
  omega
theorem mroots_near (x t r : Rat) (hx : okQ 10000 x) (ht : okQ 10000 t) (hr : okQ 10000 r) : Ret Tryz.prog 84 [qD x, qD t, qD r] (· = .bool (decide (absQ (x - t) < r))) := by
 have s1 := rational_SubQ x t (hx.mono (by decide)) (ht.mono (by decide))
 have ox := (hx.sub ht).mono (show 10000 + 10000 ≤ 20000 by decide)
 have a1 := rational_AbsB (x - t) (ox.mono (by decide))
 have oa : okQ 20000 (absQ (x - t)) := by
  unfold absQ
  split
  ·exact ox.neg
  ·exact ox
 have cm := rational_CompareQ (absQ (x - t)) r (oa.mono (by decide)) (hr.mono (by decide))
 have e : (cmpQ (absQ (x - t)) r < 0) ↔ absQ (x - t) < r := by
  unfold cmpQ
  constructor
  ·intro h
   split at h
   ·assumption
   ·split at h <;> exact absurd h (by decide)
  ·intro h
   rw [if_pos h]; decide
 generalize absQ (x - t) = a at *
 generalize x - t = d at *
 generalize cmpQ a r = c at *
 rw [show decide (a < r) = decide (c < 0) from decide_eq_decide.2 e.symm]
 clear e ox oa
 refine ret_of_awp tab Tryz.func84 rfl rfl (lblz rfl) (fun w0 F0 => ?_)
 repeat' (first | refine wG ?_ | refine wC s1 ?_ | refine wC a1 ?_ | refine wC cm ?_ | refine rg 1 5 ?_ | refine wS ?_ ?_ <;> intro _ | refine finG ?_)
 rfl
theorem clamp_near {d k : Rat} (hk : 0 < k) : clampQ d k = if absQ d < k then d else k * ((d.num.sign : Int) : Rat) := by
 have sg : d.num.sign = if d < 0 then -1 else if 0 < d then 1 else 0 := by
  rcases sg_cases d with ⟨h1, h2⟩ | ⟨h1, h2⟩ | ⟨h1, h2⟩
  ·rw [if_neg (by grind), if_pos h1]; exact h2
  ·subst h1; rfl
  ·rw [if_pos h1]; exact h2
 unfold clampQ absQ
 rw [sg]
 have e1 : (((-1 : Int)) : Rat) = -1 := rfl
 have e2 : (((1 : Int)) : Rat) = 1 := rfl
 by_cases h : d < 0
 ·rw [if_pos h, if_pos h]
  split
  ·rw [if_neg (by grind), e1]; grind
  ·rw [if_neg (by grind)]
   split
   ·rfl
   ·rw [e1]; grind
 ·rw [if_neg h, if_neg h]
  rw [if_neg (by grind)]
  split
  ·rw [if_neg (by grind), if_pos (by grind), e2]; grind
  ·split
   ·rfl
   ·rw [if_pos (by grind), e2]; grind
theorem hub_step {x : List Rat} {k t : Rat} {i : Nat} (h : i < x.length) : hub (x.take (i + 1)) k t = hub (x.take i) k t + clampQ (x.getD i 0 - t) k := by
 rw [List.take_add_one, List.getElem?_eq_getElem h, hub_append, List.getD_eq_getElem?_getD, List.getElem?_eq_getElem h]
 show _ + (clampQ (x[i] - t) k + 0) = _
 rw [Rat.add_zero]; rfl
theorem mroots_huber (x : List Rat) (k t : Rat) (hl : x.length ≤ 200) (hx : ∀ v ∈ x, okQ 1000 v) (ok : okQ 1000 k) (ot : okQ 1000 t) (hk : 0 < k) : Ret Tryz.prog 36 [qsD x, qD k, qD t] (· = qD (hub x k t)) := by
 have og : ∀ i, okQ 1000 (x.getD i 0) := fun i => ok_cf hx (by decide) i
 obtain ⟨H, hH⟩ : ∃ H : Nat → Rat, ∀ i, H i = hub (x.take i) k t := ⟨fun i => hub (x.take i) k t, fun _ => rfl⟩
 have h0 : H 0 = 0 := by rw [hH]; rfl
 have oH : ∀ i, okQ 500000 (H i) := fun i => by
  rw [hH]
  refine (hub_ok ok ot (by decide) (x := x.take i) fun v hv => hx v (List.mem_of_mem_take hv)).mono ?_
  have := Nat.mul_le_mul_right (2 * 1000) (show (x.take i).length ≤ 200 by rw [List.length_take]; omega)
  omega
 have hs : ∀ i, i < x.length → H (i + 1) = H i + clampQ (x.getD i 0 - t) k := fun i hi => by rw [hH, hH]; exact hub_step hi
 rw [show hub x k t = H x.length by rw [hH, List.take_of_length_le (Nat.le_refl _)]]
 clear hH hx
 refine ret_of_awp tab Tryz.func36 rfl rfl (lblz rfl) (fun w0 F0 => ?_)
 repeat' (first | refine wG ?_ | refine rg 7 4 ?_ | refine wS ?_ ?_ <;> intro _ | refine finG ?_)
 refine awp_conv ((Conv.box 7 (cs := [.bool false, .nils, .nils]) (rC r0) rfl leL).trans (Conv.box 6 (cs := [.bool false, .nils, .nils]) (rC r0) rfl leL)) ?_
 refine awp_loop1 (fun (i : Nat) => ([(0, .d (qsD x)), (4, .ptr 4 0), (5, .ptr 5 0), (6, .ptr 6 0), (7, .ptr 7 0), (11, .d (qsD x)), (12, .d (.int .i64 x.length)), (13, .d (.int .i64 i))], [(4, .box 27 ((rC (rq k)).map V.d)), (5, .box 27 ((rC (rq t)).map V.d)), (6, .box 27 ((rC r0).map V.d)), (7, .box 27 ((rC (rq (H i))).map V.d))])) (fun i => i ≤ x.length) (fun i => x.length - i) 0 (by omega) ⟨rfl, rfl, rfl, rfl, rfl, rfl, rfl, rfl, rfl⟩ ⟨rfl, rfl, rfl, (by rw [h0, rq_zero']; rfl), trivial⟩ (fun i hi => ?_)
 by_cases h3 : i < x.length
 ·have s1 := rational_SubQ (x.getD i 0) t ((og i).mono (by decide)) (ot.mono (by decide))
  have od : okQ 2000 (x.getD i 0 - t) := ((og i).sub ot).mono (by decide)
  have n1 := mroots_near (x.getD i 0) t k ((og i).mono (by decide)) (ot.mono (by decide)) (ok.mono (by decide))
  have sg := rational_SignQ (x.getD i 0 - t) (od.mono (by decide))
  have sb : -1 ≤ (x.getD i 0 - t).num.sign ∧ (x.getD i 0 - t).num.sign ≤ 1 := by
   rcases sg_cases (x.getD i 0 - t) with ⟨_, h2⟩ | ⟨_, h2⟩ | ⟨_, h2⟩ <;> (rw [show (x.getD i 0 - t).num.sign = sgQ (x.getD i 0 - t) from rfl, h2]; decide)
  have f1 := rational_FromIntQ (x.getD i 0 - t).num.sign (by omega) (by omega)
  have m1 := rational_MulQ k (((x.getD i 0 - t).num.sign : Int) : Rat) (ok.mono (by decide)) ((ok_intW (by omega)).mono (by decide))
  have a1 := rational_AddQ (H i) (clampQ (x.getD i 0 - t) k) ((oH i).mono (by decide)) ((clamp_ok od (ok.mono (show 1000 ≤ 2000 by decide)) (Nat.le_refl _)).mono (by decide))
  rw [← hs i h3] at a1
  rw [clamp_near hk] at a1
  clear oH hs og od
  generalize (x.getD i 0 - t).num.sign = z at *
  by_cases c : absQ (x.getD i 0 - t) < k
  ·rw [decide_eq_true c] at n1
   rw [if_pos c] at a1
   repeat' (first | refine wG ?_ | refine wC s1 ?_ | refine wC n1 ?_ | refine wC a1 ?_ | refine rg 7 4 ?_ | refine wS ?_ ?_ <;> intro _ | refine finG ?_)
   exact ⟨i + 1, by omega, by omega, ⟨rfl, rfl, rfl, rfl, rfl, rfl, rfl, iv (by omega), rfl⟩, rfl, rfl, rfl, rfl, trivial⟩
  ·rw [decide_eq_false c] at n1
   rw [if_neg c] at a1
   repeat' (first | refine wG ?_ | refine wC s1 ?_ | refine wC n1 ?_ | refine wC sg ?_ | refine wC f1 ?_ | refine wC m1 ?_ | refine wC a1 ?_ | refine rg 7 4 ?_ | refine wS ?_ ?_ <;> intro _ | refine finG ?_)
   exact ⟨i + 1, by omega, by omega, ⟨rfl, rfl, rfl, rfl, rfl, rfl, rfl, iv (by omega), rfl⟩, rfl, rfl, rfl, rfl, trivial⟩
 ·have e : i = x.length := by omega
  subst e
  clear oH hs og
  repeat' (first | refine wG ?_ | refine rg 7 4 ?_ | refine wS ?_ ?_ <;> intro _ | refine finG ?_)
  rfl
theorem Huber_zero (v : Rat) (hv : okQ 1000000 v) : Ret Tryz.prog 37 [qD v] (· = .bool (decide (v = 0))) := by
 have sg := rational_SignQ v (hv.mono (by decide))
 have z := sign_zero_iff (q := v)
 rw [show decide (v = 0) = decide (v.num.sign = 0) from decide_eq_decide.2 z.symm]
 generalize v.num.sign = s at *
 refine ret_of_awp tab Tryz.func37 rfl rfl (lblz rfl) (fun w0 F0 => ?_)
 repeat' (first | refine wG ?_ | refine wC sg ?_ | refine wS ?_ ?_ <;> intro _ | refine finG ?_)
 rfl
theorem Huber_neg (v : Rat) (hv : okQ 1000000 v) : Ret Tryz.prog 41 [qD v] (· = .bool (decide (v < 0))) := by
 have sg := rational_SignQ v (hv.mono (by decide))
 have z : v.num.sign < 0 ↔ v < 0 := by rw [← num_lt0, ← Int.not_le, ← Int.not_le, Int.sign_nonneg_iff]
 rw [show decide (v < 0) = decide (v.num.sign < 0) from decide_eq_decide.2 z.symm]
 generalize v.num.sign = s at *
 refine ret_of_awp tab Tryz.func41 rfl rfl (lblz rfl) (fun w0 F0 => ?_)
 repeat' (first | refine wG ?_ | refine wC sg ?_ | refine wS ?_ ?_ <;> intro _ | refine finG ?_)
 rfl
theorem index_some (fid : FuncId) (l : List Rat) (P : Rat → Prop) [DecidablePred P] (n : Nat) (hn : n < l.length) (hl : l.length ≤ 1000000) (hf : ∀ i, i ≤ n → Ret Tryz.prog fid [qD (l.getD i 0)] (· = .bool (decide (P (l.getD i 0))))) (h1 : P (l.getD n 0)) (h2 : ∀ j, j < n → ¬ P (l.getD j 0)) : Ret Tryz.prog 39 [qsD l, .fn fid []] (· = .int .i64 n) := by
 refine ret_of_awp tab Tryz.func39 rfl rfl (lblz rfl) (fun w0 F0 => ?_)
 repeat' (first | refine wG ?_ | refine wS ?_ ?_ <;> intro _ | refine finG ?_)
 refine awp_loop1 (fun (i : Nat) => ([(0, .d (qsD l)), (1, .d (.fn fid [])), (7, .d (.int .i64 l.length)), (8, .d (.int .i64 i))], [])) (fun i => i ≤ n) (fun i => l.length - i) 0 (by omega) ⟨rfl, rfl, rfl, rfl, rfl⟩ trivial (fun i hi => ?_)
 have c := hf i hi
 by_cases h3 : i < n
 ·rw [decide_eq_false (h2 i h3)] at c
  clear hf h2
  repeat' (first | refine wG ?_ | refine wC c ?_ | refine wS ?_ ?_ <;> intro _ | refine finG ?_)
  exact ⟨i + 1, by omega, by omega, ⟨rfl, rfl, rfl, iv (by omega), rfl⟩, trivial⟩
 ·have e : i = n := by omega
  subst e
  rw [decide_eq_true h1] at c
  clear hf h2
  repeat' (first | refine wG ?_ | refine wC c ?_ | refine wS ?_ ?_ <;> intro _ | refine finG ?_)
  rfl
theorem index_none (fid : FuncId) (l : List Rat) (P : Rat → Prop) [DecidablePred P] (hl : l.length ≤ 1000000) (hf : ∀ i, i < l.length → Ret Tryz.prog fid [qD (l.getD i 0)] (· = .bool (decide (P (l.getD i 0))))) (h2 : ∀ j, j < l.length → ¬ P (l.getD j 0)) : Ret Tryz.prog 39 [qsD l, .fn fid []] (· = .int .i64 (-1)) := by
 refine ret_of_awp tab Tryz.func39 rfl rfl (lblz rfl) (fun w0 F0 => ?_)
 repeat' (first | refine wG ?_ | refine wS ?_ ?_ <;> intro _ | refine finG ?_)
 refine awp_loop1 (fun (i : Nat) => ([(0, .d (qsD l)), (1, .d (.fn fid [])), (7, .d (.int .i64 l.length)), (8, .d (.int .i64 i))], [])) (fun i => i ≤ l.length) (fun i => l.length - i) 0 (by omega) ⟨rfl, rfl, rfl, rfl, rfl⟩ trivial (fun i hi => ?_)
 by_cases h3 : i < l.length
 ·have c := hf i h3
  rw [decide_eq_false (h2 i h3)] at c
  clear hf h2
  repeat' (first | refine wG ?_ | refine wC c ?_ | refine wS ?_ ?_ <;> intro _ | refine finG ?_)
  exact ⟨i + 1, by omega, by omega, ⟨rfl, rfl, rfl, iv (by omega), rfl⟩, trivial⟩
 ·have e : i = l.length := by omega
  subst e
  clear hf h2
  repeat' (first | refine wG ?_ | refine wS ?_ ?_ <;> intro _ | refine finG ?_)
  rfl
def chkErr (x : List Rat) (r : Rat) : Int := if x.length = 0 then 10 else if 64 < x.length then 2 else if r ≤ 0 then 1 else 0
theorem sign_le0 {r : Rat} : r.num.sign ≤ 0 ↔ r ≤ 0 := by
 rcases sg_cases r with ⟨h1, h2⟩ | ⟨h1, h2⟩ | ⟨h1, h2⟩
 ·rw [show r.num.sign = 1 from h2]; constructor <;> intro h <;> first | exact absurd h (by decide) | grind
 ·subst h1; exact ⟨fun _ => Rat.le_refl, fun _ => by decide⟩
 ·rw [show r.num.sign = -1 from h2]; exact ⟨fun _ => Rat.le_of_lt h1, fun _ => by decide⟩
theorem mroots_check (x : List Rat) (r : Rat) (hr : okQ 1000000 r) : Ret Tryz.prog 34 [qsD x, qD r] (· = .int .i64 (chkErr x r)) := by
 have sg := rational_SignQ r (hr.mono (by decide))
 have z := sign_le0 (r := r)
 unfold chkErr
 by_cases h0 : x.length = 0
 ·rw [if_pos h0]
  clear z sg
  refine ret_of_awp tab Tryz.func34 rfl rfl (lblz rfl) (fun w0 F0 => ?_)
  repeat' (first | refine wG ?_ | refine wS ?_ ?_ <;> intro _ | refine finG ?_)
  rfl
 ·rw [if_neg h0]
  by_cases h1 : 64 < x.length
  ·rw [if_pos h1]
   clear z sg
   refine ret_of_awp tab Tryz.func34 rfl rfl (lblz rfl) (fun w0 F0 => ?_)
   repeat' (first | refine wG ?_ | refine wS ?_ ?_ <;> intro _ | refine finG ?_)
   rfl
  ·rw [if_neg h1]
   by_cases h2 : r ≤ 0
   ·rw [if_pos h2]
    have h3 := z.2 h2
    generalize r.num.sign = s at *
    refine ret_of_awp tab Tryz.func34 rfl rfl (lblz rfl) (fun w0 F0 => ?_)
    repeat' (first | refine wG ?_ | refine wC sg ?_ | refine wS ?_ ?_ <;> intro _ | refine finG ?_)
    rfl
   ·rw [if_neg h2]
    have h3 : ¬ r.num.sign ≤ 0 := fun e => h2 (z.1 e)
    generalize r.num.sign = s at *
    refine ret_of_awp tab Tryz.func34 rfl rfl (lblz rfl) (fun w0 F0 => ?_)
    repeat' (first | refine wG ?_ | refine wC sg ?_ | refine wS ?_ ?_ <;> intro _ | refine finG ?_)
    rfl
theorem ends_ok {x : List Rat} {r : Rat} {n : Nat} (hx : ∀ v ∈ x, okQ n v) (hr : okQ n r) : ∀ y ∈ endsF x r, okQ (n + n) y := fun y hy => by
 obtain ⟨v, hv, e⟩ := endsF_inv hy
 rcases e with rfl | rfl
 ·exact (hx v hv).sub hr
 ·exact (hx v hv).add hr
theorem mroots_ascending (l : List Rat) (hl : l.length ≤ 12) (ho : ∀ x ∈ l, okQ 1000 x) : Ret Tryz.prog 83 [qsD l] (· = qsD (cmpL (srt l))) := by
 have hs := order_SortB (l.map rq) (by rw [List.length_map]; exact hl) (rqs_ok ho)
 rw [map_rv_rqL, List.length_map, ← srt_len l] at hs
 have os := srt_ok ho
 have sl := srt_len l
 have cb := compact_B (srt l) (by omega) (fun x hx => (os x hx).mono (by decide))
 have key : Ret Tryz.prog 83 [rsD (l.map rq)] (· = qsD (cmpL (srt l))) := by
  have hc := cmpL_len (srt l)
  have ecut : cut 0 (cmpL (srt l)).length (cmpL (srt l) ++ List.replicate ((srt l).length - (cmpL (srt l)).length) 0) = cmpL (srt l) := by
   rw [cut_zero, List.take_left' rfl]
  generalize srt l = s at *
  generalize cmpL s = c at *
  clear os ho
  refine ret_of_awp tab Tryz.func83 rfl rfl (lblz rfl) (fun w0 F0 => ?_)
  repeat' (first | refine wG ?_ | refine wD [500] hs ?_ | refine wD [] cb ?_ | refine wS ?_ ?_ <;> intro _ | refine finG ?_)
  rw [ecut]
 exact key.args (leQRs l (LeT.refl _))
theorem take_ends {x : List Rat} {r : Rat} {i : Nat} (h : i < x.length) : endsF (x.take (i + 1)) r = endsF (x.take i) r ++ [x.getD i 0 - r, x.getD i 0 + r] := by
 rw [show x.take (i + 1) = x.take i ++ [x.getD i 0] by rw [List.take_add_one, List.getD_eq_getElem?_getD, List.getElem?_eq_getElem h]; rfl, endsF_snoc]
theorem mroots_breaks (x : List Rat) (r : Rat) (hl : x.length ≤ 6) (hx : ∀ v ∈ x, okQ 100 v) (or : okQ 100 r) : Ret Tryz.prog 35 [qsD x, qD r] (· = qsD (endsQ x r)) := by
 have og : ∀ i, okQ 100 (x.getD i 0) := fun i => ok_cf hx (by decide) i
 have el := endsF_len r x
 have hasc := mroots_ascending (endsF x r) (by omega) (fun y hy => (ends_ok hx or y hy).mono (by decide))
 rw [show cmpL (srt (endsF x r)) = endsQ x r from rfl] at hasc
 obtain ⟨E, hE⟩ : ∃ E : Nat → List Rat, ∀ i, E i = endsF (x.take i) r := ⟨fun i => endsF (x.take i) r, fun _ => rfl⟩
 have e0 : E 0 = [] := by rw [hE]; rfl
 have eS : ∀ i, i < x.length → E (i + 1) = E i ++ [x.getD i 0 - r, x.getD i 0 + r] := fun i hi => by rw [hE, hE]; exact take_ends hi
 have eL : ∀ i, (E i).length ≤ 128 := fun i => by rw [hE, endsF_len, List.length_take]; omega
 rw [show endsF x r = E x.length by rw [hE, List.take_of_length_le (Nat.le_refl _)]] at hasc
 generalize endsQ x r = q at *
 clear hE hx el
 refine ret_of_awp tab Tryz.func35 rfl rfl (lblz rfl) (fun w0 F0 => ?_)
 repeat' (first | refine wG ?_ | refine rg 5 8 ?_ | refine wS ?_ ?_ <;> intro _ | refine finG ?_)
 refine awp_adopt 5 500 27 3 qC 0 rfl ?_
 refine awp_loop1 (fun (i : Nat) => ([(0, .d (qsD x)), (3, .ptr 3 0), (5, qO (E i).length), (8, .d (qsD x)), (9, .d (.int .i64 x.length)), (10, .d (.int .i64 i))], [(3, .box 27 ((rC (rq r)).map V.d)), (500, qB (E i))])) (fun i => i ≤ x.length) (fun i => x.length - i) 0 (by omega) ⟨rfl, rfl, ownEq (by rw [e0]; rfl), rfl, rfl, rfl, rfl⟩ ⟨rfl, blkEq (by rw [e0]), trivial⟩ (fun i hi => ?_)
 have hel := eL i
 by_cases h3 : i < x.length
 ·have s1 := rational_SubQ (x.getD i 0) r ((og i).mono (by decide)) (or.mono (by decide))
  have a1 := rational_AddQ (x.getD i 0) r ((og i).mono (by decide)) (or.mono (by decide))
  have st := eS i h3
  clear og eS eL
  repeat' (first | refine wG ?_ | refine wC s1 ?_ | refine wC a1 ?_ | refine rg 5 8 ?_ | refine wS ?_ ?_ <;> intro _ | refine finG ?_)
  exact ⟨i + 1, by omega, by omega, ⟨rfl, rfl, ownEq (by rw [st]), rfl, rfl, iv (by omega), rfl⟩, rfl, blkEq (by rw [st]), trivial⟩
 ·have e : i = x.length := by omega
  subst e
  clear og eS eL
  repeat' (first | refine wG ?_ | refine wC hasc ?_ | refine rg 5 8 ?_ | refine wS ?_ ?_ <;> intro _ | refine finG ?_)
  rfl
def xN (n : Nat) : List Rat := List.replicate n 0 ++ [1]
structure XOk (n : Nat) (E : List Rat) : Prop where
 e : derP (xN n) = E
 tx : trimP (xN n) = xN n
 ty : trimP (xN (n - 1)) = xN (n - 1)
 m : monicP E = xN (n - 1)
 mx : monicP (xN (n - 1)) = xN (n - 1)
 r : remP (xN n) E = []
 q : divP (xN n) (xN (n - 1)) = ([0, 1], [])
 s1 : smB (xN n) = true
 s2 : smB (xN (n - 1)) = true
 s3 : smB E = true
 l1 : (xN n).length = n + 1
 l2 : (xN (n - 1)).length = n
 l3 : E.length = n
 n0 : 1 ≤ n
 n1 : n ≤ 30
end Go.Proofs.YtejigedigmagdaaGreat
set_option linter.unusedSectionVars false
namespace Go.Vw
open Go.RowKit
section
variable {ex : Bool} {X : Ctx} {all : Array Oper} {Q : Exit → St → Prop} {s : St} {o : Oper} {pre rest : List Oper} {d : Tmp}
end
end Go.Vw
namespace Go.Proofs.YtejigedigmagdaaGreat
open Go.Vw
attribute [local irreducible] awp awpL awpR
theorem numQ2 (v : Int) : okQ 2 (numQ v) := by
 have lm : ∀ n, n < 4294967296 → (limbs n).length < 2 := fun n h => by
  rcases Nat.eq_zero_or_pos n with e | e
  ·subst e; rw [limbs_zero]; decide
  ·rw [limbs_small (by show n < 4294967296; omega) (by omega)]; simp
 exact okQ_divInt (by omega) (lm _ (by omega)) (lm _ (by omega))
theorem ht2 {p : List Rat} (hp : ∀ x ∈ p, okQ 2 x) {n : Nat} (hl : p.length ≤ n) : HtP (n * 2 + 2) (trimP p) := (HtP.of_ok (by decide) p hp).trim.mono (by omega)
inductive PosM : List (List Rat) → List (List Rat) → Prop
 | nil : PosM [] []
 | cons {c : Rat} {a : List Rat} {l l' : List (List Rat)} : 0 < c → PosM l l' → PosM (smul c a :: l) (a :: l')
theorem PosM.refl : ∀ l, PosM l l
 | [] => .nil
 | a :: l => by
  have := PosM.cons (c := 1) (a := a) (by decide) (PosM.refl l)
  rwa [smul_one] at this
theorem ln_sm {n : Nat} (h : n < 4294967296) : ln n < 2 := by
 unfold ln
 rcases Nat.eq_zero_or_pos n with e | e
 ·subst e; rw [limbs_zero]; decide
 ·rw [limbs_small (by show n < 4294967296; omega) (by omega)]; simp
theorem ht_der {h : Nat} {p : List Rat} (H : HtP h p) (hl : p.length ≤ 1000) : HtP (h + 1) (derP p) := by
 refine HtP.trim ?_
 obtain ⟨c, P, c0, hc, hp⟩ := H
 refine ⟨c, fun i => if i < p.length then ((i + 1 : Nat) : Int) * P (i + 1) else 0, c0, by omega, fun i => ?_⟩
 dsimp only
 rw [cf_der]
 split
 ·refine ⟨?_, ?_⟩
  ·have := ln_mulZ (a := ((i + 1 : Nat) : Int)) (h := 2) (by rw [Int.natAbs_natCast]; exact ln_sm (by omega)) (hp (i + 1)).1
   omega
  ·rw [(hp (i + 1)).2, Rat.divInt_eq_div, Rat.divInt_eq_div, Rat.intCast_mul, Rat.div_def, Rat.div_def, Rat.mul_assoc, Rat.intCast_natCast]
 ·refine ⟨by show ln 0 < h + 1; rw [ln_zero]; omega, ?_⟩
  rw [cf_ge (by omega), Rat.mul_zero]
  exact (Rat.zero_divInt c).symm
theorem ht_small {h : Nat} {p : List Rat} (t : Tr p) (H : HtP h p) : HtP (h + 1) (smallP p) := chOk_small.ht p h t H
theorem ctrOk_of {p : List Rat} (tp : Tr p) (p0 : p ≠ []) {h B : Nat} (hp : HtP h p) (h1 : 1 < h) (lp : p.length ≤ 90) (hB : 6 ≤ B) (h3 : (h + 2) * 3 ^ p.length ≤ B) (hB2 : B ≤ Bud) (hb : ∀ l g, 1 ≤ g → g ≤ p.length → (1 < g → l * 3 ^ g ≤ B) → (g = 1 → l = 3) → h + (p.length + 1 - g) * l + l ≤ 2000000 ∧ (h + (p.length + 1 - g) * l + l + 3) * 3 ^ (p.length + 1 - g) ≤ Bud) : CtrOk p ∧ ∃ M, JS (smallP (ctrQ p)) (smallP (derP (ctrQ p))) M := by
 have td := tr_trim (derC p)
 have hd := ht_der hp (by omega)
 have ld : (derP p).length < p.length := by
  have := derP_lt (p := p) (by rw [trim_of tp]; exact p0)
  rwa [trim_of tp] at this
 have e1 : max p.length ((derP p).length + 1) = p.length := by omega
 have hj : JG p (derP p) := JG.of tp td (hp.mono (Nat.le_succ h)) hd (by rw [e1]; exact Nat.le_trans h3 hB2)
 obtain ⟨g1, g2⟩ := gcdP_tr tp td
 obtain ⟨g3, g4⟩ := g2 (.inl p0)
 rw [show trimP (derC p) = derP p from rfl] at g1 g3 g4
 obtain ⟨M, k1, k2⟩ := gcdB hB _ tp td (hp.mono (Nat.le_succ h)) hd (by rw [show trimP (derC p) = derP p from rfl, if_pos ld]; exact h3) (Nat.le_refl _)
 rw [show trimP (derC p) = derP p from rfl] at k1 k2
 have gl := ne_len g3
 have glp : (gcdP p (derP p)).length ≤ p.length := by
  have := gcd_len _ tp td (Nat.le_refl _)
  rw [show trimP (derC p) = derP p from rfl] at this
  omega
 have key : ∃ l, HtP l (gcdP p (derP p)) ∧ h + (p.length + 1 - (gcdP p (derP p)).length) * l + l ≤ 2000000 ∧ (h + (p.length + 1 - (gcdP p (derP p)).length) * l + l + 3) * 3 ^ (p.length + 1 - (gcdP p (derP p)).length) ≤ Bud := by
  by_cases c : (gcdP p (derP p)).length = 1
  ·obtain ⟨a1, a2⟩ := hb 3 (gcdP p (derP p)).length gl glp (by omega) (fun _ => rfl)
   exact ⟨3, ht_one c g4, a1, a2⟩
  ·obtain ⟨a1, a2⟩ := hb (M + 1) (gcdP p (derP p)).length gl glp (fun _ => k2) (fun h => absurd h c)
   exact ⟨M + 1, k1, a1, a2⟩
 obtain ⟨l, l1, l2, l3⟩ := key
 have hQ : HtP (h + (p.length + 1 - (gcdP p (derP p)).length) * l + l) (ctrQ p) := divP_ht tp g1 g3 hp l1
 have lQ : (ctrQ p).length ≤ p.length + 1 - (gcdP p (derP p)).length := (divP_q tp g1 g3 hp l1 h1).2
 have tQ : Tr (ctrQ p) := (divP_spec tp g1 g3).1
 obtain ⟨H, hH⟩ : ∃ H, h + (p.length + 1 - (gcdP p (derP p)).length) * l + l = H := ⟨_, rfl⟩
 rw [hH] at hQ l3
 have tE := tr_trim (derC (ctrQ p))
 have hE := ht_der hQ (by omega)
 have lt : ctrQ p ≠ [] → (derP (ctrQ p)).length < (ctrQ p).length := fun q0 => by
  have := derP_lt (p := ctrQ p) (by rw [trim_of tQ]; exact q0)
  rwa [trim_of tQ] at this
 have pw : 3 ^ (ctrQ p).length ≤ 3 ^ (p.length + 1 - (gcdP p (derP p)).length) := Nat.pow_le_pow_right (by decide) lQ
 have b3 : (H + 3) * 3 ^ (ctrQ p).length ≤ Bud := Nat.le_trans (Nat.mul_le_mul_left _ pw) l3
 refine ⟨⟨g3, g1, hj, by omega, ⟨h, l, hp, l1, l2⟩, by omega, H + 1, tQ, tE, lt, hQ.mono (by omega), hE, ?_⟩, H + 2, chOk_small.tr _ tQ, chOk_small.tr _ tE, fun h0 => ?_, (ht_small tQ hQ).mono (by omega), ht_small tE hE, ?_⟩
 ·exact Nat.le_trans (Nat.mul_le_mul_right _ (by omega)) b3
 ·rw [chOk_small.len, chOk_small.len]
  exact lt fun e => h0 (by rw [e]; rfl)
 ·rw [chOk_small.len]; exact b3
theorem chS_small : ChS smallP := ⟨chOk_small.tr, chOk_small.len, fun p tp => by
 by_cases h0 : p = []
 ·subst h0
  exact ⟨1, by decide, fun x => by rw [Rat.one_mul]; rfl⟩
 ·have hl := lead_ne tp h0
  have hp : 0 < absQ (lead p) := by
   unfold absQ
   split
   ·grind
   ·grind
  refine ⟨absQ (lead p), hp, fun x => ?_⟩
  unfold smallP
  rw [eval_smul, ← Rat.mul_assoc, Rat.mul_comm (absQ (lead p)), div_mul_cancel' (Rat.ne_of_gt hp), Rat.one_mul]⟩
theorem vrsF_eq (F : List (List Rat)) (x : Rat) : vrsF F x = vrs (F.map evalP) x := by
 unfold vrsF vrs sgs
 rw [List.map_map]
 rfl
theorem ctrOk_mk {p : List Rat} (tp : Tr p) (p0 : p ≠ []) {h l H : Nat} (hp : HtP h p) (h1 : 1 < h) (lp : p.length ≤ 90) (h3 : (h + 2) * 3 ^ p.length ≤ Bud) (hg : HtP l (gcdP p (derP p))) (hQ : HtP H (ctrQ p)) (hb : h + (p.length + 1 - (gcdP p (derP p)).length) * l + l ≤ 2000000) (hb2 : (H + 3) * 3 ^ (ctrQ p).length ≤ Bud) : CtrOk p ∧ ∃ M, JS (smallP (ctrQ p)) (smallP (derP (ctrQ p))) M := by
 have td := tr_trim (derC p)
 have hd := ht_der hp (by omega)
 have ld : (derP p).length < p.length := by
  have := derP_lt (p := p) (by rw [trim_of tp]; exact p0)
  rwa [trim_of tp] at this
 have e1 : max p.length ((derP p).length + 1) = p.length := by omega
 have hj : JG p (derP p) := JG.of tp td (hp.mono (Nat.le_succ h)) hd (by rw [e1]; exact h3)
 obtain ⟨g1, g2⟩ := gcdP_tr tp td
 obtain ⟨g3, g4⟩ := g2 (.inl p0)
 rw [show trimP (derC p) = derP p from rfl] at g1 g3 g4
 have glp : (gcdP p (derP p)).length ≤ p.length := by
  have := gcd_len _ tp td (Nat.le_refl _)
  rw [show trimP (derC p) = derP p from rfl] at this
  omega
 have lQ : (ctrQ p).length ≤ p.length + 1 - (gcdP p (derP p)).length := (divP_q tp g1 g3 hp hg h1).2
 have tQ : Tr (ctrQ p) := (divP_spec tp g1 g3).1
 have tE := tr_trim (derC (ctrQ p))
 have hE := ht_der hQ (by omega)
 have lt : ctrQ p ≠ [] → (derP (ctrQ p)).length < (ctrQ p).length := fun q0 => by
  have := derP_lt (p := ctrQ p) (by rw [trim_of tQ]; exact q0)
  rwa [trim_of tQ] at this
 refine ⟨⟨g3, g1, hj, by omega, ⟨h, l, hp, hg, hb⟩, by omega, H + 1, tQ, tE, lt, hQ.mono (by omega), hE, ?_⟩, H + 2, chOk_small.tr _ tQ, chOk_small.tr _ tE, fun h0 => ?_, (ht_small tQ hQ).mono (by omega), ht_small tE hE, ?_⟩
 ·exact Nat.le_trans (Nat.mul_le_mul_right _ (by omega)) hb2
 ·rw [chOk_small.len, chOk_small.len]
  exact lt fun e => h0 (by rw [e]; rfl)
 ·rw [chOk_small.len]; exact hb2
structure PolOk (p : List Rat) : Prop where
 len : p.length ≤ 8
 ok : ∀ x ∈ p, okQ 100 x
 ctr : trimP p ≠ [] → CtrOk (trimP p) ∧ ∃ M, JS (smallP (ctrQ (trimP p))) (smallP (derP (ctrQ (trimP p)))) M
theorem PolOk.trim {p : List Rat} (h : PolOk p) : PolOk (trimP p) := ⟨Nat.le_trans (trim_len p) h.len, fun x hx => h.ok x (trim_mem hx), by rw [trim_trim]; exact h.ctr⟩
def cntV (p : List Rat) (X : I2) : Int := if trimP p = [] then -1 else cntF (ctr (trimP p)) X.1 X.2
def holdsB (p : List Rat) (X : I2) : Bool := decide (X.1 ≤ X.2) && (if X.1 = X.2 then decide (evalP p X.1 = 0) else decide (cntV p X = 1))
theorem evalV_ok {p : List Rat} (hp : PolOk p) (x : Rat) (ox : okQ 150000 x) : okQ 2000000 (evalP p x) := by
 have h := horn_ok hp.ok ox (by decide) p.length (Nat.le_refl _)
 rw [horn_all] at h
 refine h.mono ?_
 have := hp.len
 have := Nat.mul_le_mul_right (100 + 150000) (show p.length ≤ 8 by omega)
 omega
theorem polynomial_EvalV {p : List Rat} (hp : PolOk p) (x : Rat) (ox : okQ 150000 x) : Ret Tryz.prog 60 [qsD p, qD x] (· = qD (evalP p x)) := by
 have hl := hp.len
 have hk : ∀ k, k ≤ p.length → okQ 2000000 (hornK p x k) := fun k hk => by
  refine (horn_ok hp.ok ox (by decide) k hk).mono ?_
  have := Nat.mul_le_mul_right (100 + 150000) (show k ≤ 8 by omega)
  omega
 have h := polynomial_Eval (p.map rq) (rq x) (by rw [List.length_map]; omega) (rqs_ok fun x hx => (hp.ok x hx).mono (by decide)) (ok_rq (ox.mono (by decide))) (by rw [map_rv_rqL, List.length_map, rv_rq]; exact fun k hk2 => (hk k hk2).mono (by decide))
 rw [map_rv_rqL, rv_rq] at h
 exact h.args (leQRs p (LeT.refl _))
theorem polynomial_DegreeQ (p : List Rat) (hp : p.length ≤ 400) (kp : ∀ x ∈ p, okQ 1000000 x) : Ret Tryz.prog 152 [qsD p] (· = .int .i64 (((trimP p).length : Int) - 1)) := by
 have h := polynomial_Degree (p.map rq) (by rw [List.length_map]; omega) (rqs_ok fun x hx => (kp x hx).mono (by decide))
 rw [map_rv_rqL] at h
 exact h.args (leQRs p (LeT.refl _))
theorem newCounterV {p : List Rat} (hp : PolOk p) (p0 : trimP p ≠ []) : Ret Tryz.prog 153 [qsD p] (· = qssD (ctr (trimP p))) := by
 have h := polynomial_newCounter (p.map rq) (by rw [List.length_map]; have := hp.len; omega) (rqs_ok fun x hx => (hp.ok x hx).mono (by decide)) (by rw [map_rv_rqL]; exact (hp.ctr p0).1)
 rw [map_rv_rqL] at h
 exact h.args (leQRs p (LeT.refl _))
theorem countV {p : List Rat} (hp : PolOk p) (p0 : trimP p ≠ []) (x y : Rat) (ox : okQ 150000 x) (oy : okQ 150000 y) : Ret Tryz.prog 188 [qssD (ctr (trimP p)), qD x, qD y] (· = .int .i64 (cntF (ctr (trimP p)) x y)) := by
 obtain ⟨hk, _⟩ := hp.ctr p0
 obtain ⟨M, f⟩ := hk.fit2
 have hfit := f.chain chOk_small ((ctrQ (trimP p)).length + 1)
 have cln := chain_len smallP ((ctrQ (trimP p)).length + 1) (ctrQ (trimP p)) (derP (ctrQ (trimP p)))
 have ql := hk.ql
 have h := counter_count (ctr (trimP p)) (rq x) (rq y) (by unfold ctr; omega) (fun g hg => by
  obtain ⟨g1, M', g2⟩ := hfit g hg
  refine ⟨?_, M', g2⟩
  have b := g2.2
  by_cases g0 : g.length ≤ 13
  ·exact g0
  ·exfalso
   have b3 := Nat.pow_le_pow_right (show 0 < 3 by decide) (show 14 ≤ g.length by omega)
   have b4 := Nat.mul_le_mul_right (3 ^ g.length) (show 1 ≤ M' + 1 by omega)
   have b5 : (3 : Nat) ^ 14 = 4782969 := by decide
   unfold Bud at b
   omega) (ok_rq (ox.mono (by decide))) (ok_rq (oy.mono (by decide)))
 rwa [rv_rq, rv_rq] at h
theorem interval_HullS (X : I2) (oX : okI 150000 X) (h : X.1 ≤ X.2) : Ret Tryz.prog 40 [iQ X, iQ X] (· = iQ X) := by
 have k := interval_Hull (rq X.1) (rq X.2) (rq X.1) (rq X.2) (ok_rq (oX.1.mono (by decide))) (ok_rq (oX.2.mono (by decide))) (ok_rq (oX.1.mono (by decide))) (ok_rq (oX.2.mono (by decide)))
 rwa [rv_rq, rv_rq, hullI_same h] at k
end Go.Proofs.YtejigedigmagdaaGreat
