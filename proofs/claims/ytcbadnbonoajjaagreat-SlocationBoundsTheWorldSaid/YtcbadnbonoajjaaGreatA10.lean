/-
  Contracts of functions of the program, and the layer that they are walked with: L10 N13 L11 ScaD L12 L13 W13 L14 L15. Conditions: as each says.
-/
import Derived.Test.YtcbadnbonoajjaaGreatA09
/-
  Estimates of location, by the program: Fit, given the scales. Conditions: as each says.
-/
set_option linter.unusedVariables false
set_option linter.unusedSimpArgs false
set_option linter.unnecessarySimpa false
set_option maxHeartbeats 8000000
namespace Go.Proofs.YtcbadnbonoajjaaGreat
open Go.Vw
attribute [local irreducible] awp awpL awpR

theorem rational_AddZl (x : Rat) (hx : okQ 10000000 x) : Ret Tryz.prog 54 [qD x, rD r0] (· = qD x) := by
  have h := rational_AddQ x 0 hx (okQ_zero (by decide))
  rw [Rat.add_zero, show qD 0 = rD r0 from congrArg rD rq_zero] at h
  exact h
theorem fit_offer (A : Rat → I2) (s ts : List Rat) (t c b : Rat) (n : Int) (hb : okI 1000000 (bFold A ts).2.2) (ha : okI 1000000 (A t)) (d : Ret Tryz.prog 48 [qsD s, iQ (t, t)] (· = qsD (s.map (dst1 (t, t))))) (h : Ret Tryz.prog 24 (qsD (s.map (dst1 (t, t))) :: capF c b n) (· = .tup [iQ (A t), .int .i64 0])) : RetB Tryz.prog 47 [.d (qD t), .d (.ptr [.fn 24 (capF c b n)] 0), .d (.ptr [qsD s] 0), .ptr 12 0] (lookB [(12, lsB (bFold A ts).1 (bFold A ts).2.1 (bFold A ts).2.2)]) (.tup []) (lookB [(12, lsB (bFold A (ts ++ [t])).1 (bFold A (ts ++ [t])).2.1 (bFold A (ts ++ [t])).2.2)]) := by
  rw [bFold_snoc]
  generalize bFold A ts = B at *
  obtain ⟨f, l, i⟩ := B
  unfold bOff
  simp only at hb
  cases f with
  | false =>
    rw [if_pos (.inl rfl)]
    exact (fit_at s t false true l [t] i (A t) d c b n h (offer_none l [t] i (A t))).ren [(700, 12)]
  | true =>
    by_cases g : (A t).1 < i.1
    · rw [if_pos (.inr g)]
      exact (fit_at s t true true l [t] i (A t) d c b n h (offer_less l [t] i (A t) hb.1 ha.1 g)).ren [(700, 12)]
    · rw [if_neg (by intro e; rcases e with e | e; exact Bool.noConfusion e; exact g e)]
      exact (fit_at s t true true l l i i d c b n h (offer_not l [t] i (A t) hb.1 ha.1 g)).ren [(700, 12)]
theorem fit_ok (X : List R3) (x s cs : List Rat) (lo hi c b : Rat) (bits : Int) (n m : Nat) (A : Rat → I2) (G : Nat → I2) (ex : X.map rv = x) (es : srt x = s) (ec : cmpL s = cs) (hX : ∀ r ∈ X, RatOk r 40) (h0 : 0 < X.length) (h6 : X.length ≤ 6) (elo : s.getD 0 0 = lo) (ehi : s.getD (s.length - 1) 0 = hi) (n1 : 1 ≤ n) (n2 : n ≤ 1024) (em : m = if lo = hi then 1 else n)
    (hz : Ret Tryz.prog 24 (.full (rsD (List.replicate 1 r0)) :: capF c b bits) (· = .tup [iD r0 r0, .int .i64 0]))
    (hA : ∀ t, (t ∈ cs ∨ ∃ i, i < m ∧ t = ((partQ (lo, hi) m i).1 + (partQ (lo, hi) m i).2) / 2) → Ret Tryz.prog 24 (qsD (s.map (dst1 (t, t))) :: capF c b bits) (· = .tup [iQ (A t), .int .i64 0]) ∧ okI 100000 (A t))
    (hG : ∀ i, i < m → Ret Tryz.prog 24 (qsD (s.map (dst1 (partQ (lo, hi) m i))) :: capF c b bits) (· = .tup [iQ (G i), .int .i64 0]) ∧ okI 100000 (G i)) :
    Ret Tryz.prog 23 [rsD X, .int .i64 n, .fn 24 (capF c b bits)] (· = .tup [sfD (bFold A (cs ++ (List.range m).map fun (i : Nat) => ((partQ (lo, hi) m i).1 + (partQ (lo, hi) m i).2) / 2)).2.1 (bFold A (cs ++ (List.range m).map fun (i : Nat) => ((partQ (lo, hi) m i).1 + (partQ (lo, hi) m i).2) / 2)).2.2 (lowF (fun i => (G i).1) m) m, .int .i64 0]) := by
  have lX : s.length = X.length := by rw [← es, srt_len, ← ex, List.length_map]
  have so := order_SortQ X (by omega) (fun r hr => (hX r hr).up (by decide))
  have sb := order_SortB X (by omega) (fun r hr => (hX r hr).up (by decide))
  rw [ex, es] at so sb
  rw [← lX] at sb
  have ox : ∀ v ∈ x, okQ 40 v := fun v hv => by
    rw [← ex] at hv
    obtain ⟨r, hr, rfl⟩ := List.mem_map.1 hv
    exact okQ_rv (hX r hr) (by decide)
  have os : ∀ v ∈ s, okQ 40 v := fun v hv => by rw [← es] at hv; exact srt_ok ox v hv
  have cb := compact_B s (by omega) (fun v hv => (os v hv).mono (by decide))
  have cl := cmpL_len s
  have oc : ∀ v ∈ cs, okQ 40 v := fun v hv => by rw [← ec] at hv; exact os v (cmpL_mem.1 hv)
  have ogl : okI 40 (lo, hi) := ⟨by rw [← elo]; exact ok_cf0 os (by decide) 0, by rw [← ehi]; exact ok_cf0 os (by decide) _⟩
  have ocut : cut 0 cs.length (cs ++ List.replicate (s.length - cs.length) 0) = cs := by rw [cut_zero, List.take_left' rfl]
  rw [ec] at cb cl
  have m1 : 1 ≤ m := by rw [em]; split <;> omega
  have m2 : m ≤ 1024 := by rw [em]; split <;> omega
  have pa := slocation_Parts (lo, hi) m ⟨ogl.1.mono (by decide), ogl.2.mono (by decide)⟩ m1 m2
  have pl : (partsQ (lo, hi) m).length = m := by unfold partsQ; rw [List.length_map, List.length_range]
  have pg : ∀ i, i < m → (partsQ (lo, hi) m).getD i (0, 0) = partQ (lo, hi) m i := fun i hi => by
    unfold partsQ
    rw [List.getD_eq_getElem?_getD, List.getElem?_map, List.getElem?_range hi]; rfl
  have op : ∀ i, i < m → okI 400 (partQ (lo, hi) m i) := fun i hi' => ⟨endQ_ok ⟨ogl.1.mono (by decide), ogl.2.mono (by decide)⟩ (by omega) (by omega) (by omega) (by omega), endQ_ok ⟨ogl.1.mono (by decide), ogl.2.mono (by decide)⟩ (by omega) (by omega) (by omega) (by omega)⟩
  have cm := rational_CompareQ lo hi (ogl.1.mono (by decide)) (ogl.2.mono (by decide))
  have cz := cmpQ_zero lo hi
  have oT : ∀ t, okQ 1000 t → Ret Tryz.prog 48 [qsD s, iQ (t, t)] (· = qsD (s.map (dst1 (t, t)))) := fun t ot => slocation_distances s (t, t) (by omega) (fun v hv => (os v hv).mono (by decide)) ⟨ot, ot⟩
  have oP : ∀ i, i < m → Ret Tryz.prog 48 [qsD s, iQ (partQ (lo, hi) m i)] (· = qsD (s.map (dst1 (partQ (lo, hi) m i)))) := fun i hi' => slocation_distances s _ (by omega) (fun v hv => (os v hv).mono (by decide)) ⟨(op i hi').1.mono (by decide), (op i hi').2.mono (by decide)⟩
  have oM : ∀ i, i < m → okQ 1000 (((partQ (lo, hi) m i).1 + (partQ (lo, hi) m i).2) / 2) := fun i hi' => (((op i hi').1.add (op i hi').2).div okQ_two2 (by decide)).mono (by decide)
  have mi : ∀ i, i < m → Ret Tryz.prog 53 [iQ (partQ (lo, hi) m i)] (· = qD (((partQ (lo, hi) m i).1 + (partQ (lo, hi) m i).2) / 2)) := fun i hi' => slocation_middle _ ⟨(op i hi').1.mono (by decide), (op i hi').2.mono (by decide)⟩
  have okB : ∀ ts : List Rat, (∀ t ∈ ts, okI 1000000 (A t)) → okI 1000000 (bFold A ts).2.2 := fun ts h => bFold_all (P := okI 1000000) ⟨okQ_zero (by decide), okQ_zero (by decide)⟩ ts h
  have okA : ∀ t ∈ cs, okI 1000000 (A t) := fun t ht => ⟨(hA t (.inl ht)).2.1.mono (by decide), (hA t (.inl ht)).2.2.mono (by decide)⟩
  obtain ⟨P, hP⟩ : ∃ P : Nat → I2, ∀ i, P i = partQ (lo, hi) m i := ⟨fun i => partQ (lo, hi) m i, fun _ => rfl⟩
  simp only [← hP] at hA hG pg op oP oM mi ⊢
  have okM : ∀ i, i < m → okI 1000000 (A (((P i).1 + (P i).2) / 2)) := fun i hi' => ⟨(hA _ (.inr ⟨i, hi', rfl⟩)).2.1.mono (by decide), (hA _ (.inr ⟨i, hi', rfl⟩)).2.2.mono (by decide)⟩
  obtain ⟨ms, hms⟩ : ∃ ms : List Rat, ms = (List.range m).map fun (i : Nat) => ((P i).1 + (P i).2) / 2 := ⟨_, rfl⟩
  rw [← hms]
  have lms : ms.length = m := by rw [hms, List.length_map, List.length_range]
  have gms : ∀ i, i < m → ms.getD i 0 = ((P i).1 + (P i).2) / 2 := fun i hi' => by
    rw [hms, List.getD_eq_getElem?_getD, List.getElem?_map, List.getElem?_range hi']; rfl
  have stk : ∀ {l : List Rat} {i : Nat}, i < l.length → l.take i ++ [l.getD i 0] = l.take (i + 1) := fun {l i} h => by
    rw [List.take_add_one, List.getElem?_eq_getElem h, List.getD_eq_getElem?_getD, List.getElem?_eq_getElem h]; rfl
  obtain ⟨B1, hB1⟩ : ∃ B1 : Nat → Bst, ∀ i, B1 i = bFold A (cs.take i) := ⟨_, fun _ => rfl⟩
  obtain ⟨B2, hB2⟩ : ∃ B2 : Nat → Bst, ∀ i, B2 i = bFold A (cs ++ ms.take i) := ⟨_, fun _ => rfl⟩
  have b10 : B1 0 = (false, [], (0, 0)) := by rw [hB1]; rfl
  have b12 : B2 0 = B1 cs.length := by rw [hB1, hB2, List.take_zero, List.append_nil, List.take_of_length_le (Nat.le_refl _)]
  have b2E : B2 m = bFold A (cs ++ ms) := by rw [hB2, ← lms, List.take_of_length_le (Nat.le_refl _)]
  rw [← b2E]
  have of1 : ∀ i, i < cs.length → RetB Tryz.prog 47 [.d (qD (cs.getD i 0)), .d (.ptr [.fn 24 (capF c b bits)] 0), .d (.ptr [qsD s] 0), .ptr 12 0] (lookB [(12, lsB (B1 i).1 (B1 i).2.1 (B1 i).2.2)]) (.tup []) (lookB [(12, lsB (B1 (i + 1)).1 (B1 (i + 1)).2.1 (B1 (i + 1)).2.2)]) := fun i hi' => by
    have hm : cs.getD i 0 ∈ cs := by rw [List.getD_eq_getElem?_getD, List.getElem?_eq_getElem hi']; exact List.getElem_mem hi'
    rw [hB1, hB1, ← stk hi']
    exact fit_offer A s (cs.take i) (cs.getD i 0) c b bits (okB _ fun t ht => okA t (List.mem_of_mem_take ht)) (okA _ hm) (oT _ ((oc _ hm).mono (by decide))) (hA _ (.inl hm)).1
  have of2 : ∀ i, i < m → RetB Tryz.prog 47 [.d (qD (((P i).1 + (P i).2) / 2)), .d (.ptr [.fn 24 (capF c b bits)] 0), .d (.ptr [qsD s] 0), .ptr 12 0] (lookB [(12, lsB (B2 i).1 (B2 i).2.1 (B2 i).2.2)]) (.tup []) (lookB [(12, lsB (B2 (i + 1)).1 (B2 (i + 1)).2.1 (B2 (i + 1)).2.2)]) := fun i hi' => by
    rw [hB2, hB2, ← stk (by omega), gms i hi', ← List.append_assoc]
    refine fit_offer A s (cs ++ ms.take i) _ c b bits (okB _ fun t ht => ?_) (okM i hi') (oT _ (oM i hi')) (hA _ (.inr ⟨i, hi', rfl⟩)).1
    rcases List.mem_append.1 ht with ht | ht
    · exact okA t ht
    · have := List.mem_of_mem_take ht
      rw [hms] at this
      obtain ⟨j, hj, rfl⟩ := List.mem_map.1 this
      exact okM j (List.mem_range.1 hj)
  obtain ⟨lw, hlw⟩ : ∃ lw : Nat → Rat, ∀ i, lw i = lowF (fun i => (G i).1) i := ⟨_, fun _ => rfl⟩
  have lw0 : lw 0 = 0 := by rw [hlw]; rfl
  have lwS : ∀ i, lw (i + 1) = if i = 0 ∨ (G i).1 < lw i then (G i).1 else lw i := fun i => by rw [hlw, hlw]; rfl
  have lwo : ∀ i, i ≤ m → okQ 100000 (lw i) := fun i hi' => by
    rw [hlw]
    exact lowF_all (P := okQ 100000) (okQ_zero (by decide)) i fun j hj => (hG j (by omega)).2.1
  rw [← hlw]
  have hGo : ∀ i, i < m → okI 100000 (G i) := fun i hi' => (hG i hi').2
  have hG' : ∀ i, i < m → Ret Tryz.prog 24 (qsD (s.map (dst1 (P i))) :: capF c b bits) (· = .tup [iQ (G i), .int .i64 0]) := fun i hi' => (hG i hi').1
  have scs : cs.length ≤ s.length := by rw [← ec]; exact cmpL_len s
  have dsP : ∃ dP : Nat → List Rat, ∀ i, dP i = s.map (dst1 (P i)) := ⟨_, fun _ => rfl⟩
  obtain ⟨dP, hdP⟩ := dsP
  simp only [← hdP] at oP hG'
  generalize partsQ (lo, hi) m = ps at *
  clear hA hG hms lms gms hB1 hB2 b2E okB okA okM hlw hP oT oM ex es ec oc ox hX stk hdP ms
  have ehi2 : s.getD ((s.length : Int) - 1).toNat 0 = hi := by rw [← ehi]; congr 1; omega
  refine ret_of_awp tab Tryz.func23 rfl rfl (Nat.le_of_ble_eq_true rfl) (fun w0 F0 => ?_)
  repeat' (first | refine stepRMakeG (mm := true) (en := rC) (z := r0) tt rfl rfl rfl rfl rfl rfl rfl rfl rfl rfl rfl leL sc sc ?_ | refine stopA 14 tt ?_ | refine wG ?_ | refine wC hz ?_ | refine wC so ?_ | refine rgK 5 8 [8] ?_ | refine rgK 13 11 [11] ?_ | refine rgK 28 10 [19] ?_ | refine rg 32 8 ?_ | refine wS ?_ ?_ <;> intro _ | refine finG ?_)
  refine stopOut ?_
  refine awp_rebox 11 (iC (rq lo) (rq hi)) rfl rfl (by rw [← elo, ← ehi2]; exact leL) ?_
  have hk : (cmpQ lo hi = 0 ∧ (m : Int) = 1) ∨ (¬ cmpQ lo hi = 0 ∧ (m : Int) = n) := by
    by_cases h : lo = hi
    · rw [if_pos h] at em; exact .inl ⟨cz.2 h, by omega⟩
    · rw [if_neg h] at em; exact .inr ⟨fun e => h (cz.1 e), by omega⟩
  generalize cmpQ lo hi = k at *
  clear cz em ehi2 ehi elo so hz
  rcases hk with ⟨hk, hm⟩ | ⟨hk, hm⟩
  all_goals
    repeat' (first | refine stopA 16 tt ?_ | refine wG ?_ | refine wC cm ?_ | refine rgK 5 8 [8] ?_ | refine rgK 13 11 [11] ?_ | refine rgK 28 10 [19] ?_ | refine rg 32 8 ?_ | refine wS ?_ ?_ <;> intro _ | refine finG ?_)
    refine stopOut ?_
    refine awp_cast 1 (.int .i64 m) rfl (LeD.eqi (by omega)) ?_
    repeat' (first | refine stopA 17 tt ?_ | refine wG ?_ | refine rgK 5 8 [8] ?_ | refine rgK 13 11 [11] ?_ | refine rgK 28 10 [19] ?_ | refine rg 32 8 ?_ | refine wS ?_ ?_ <;> intro _ | refine finG ?_)
    refine stopOut ?_
    refine awp_rebox 12 (lsC false [] (0, 0)) rfl rfl (by unfold lsC; simp only [rq_zero]; exact leL) ?_
    refine awp_frz 5 rfl ?_
    refine awp_frz 10 rfl ?_
    repeat' (first | refine wG ?_ | refine wD [500] sb ?_ | refine wD [] cb ?_ | refine rgK 5 8 [8] ?_ | refine rgK 13 11 [11] ?_ | refine rgK 28 10 [19] ?_ | refine rg 32 8 ?_ | refine wS ?_ ?_ <;> intro _ | refine finG ?_)
    refine awp_frz 500 rfl ?_
    refine awp_cast 70 (qsD cs) rfl (by
      show LeD (.sl 3 qC 0 (cut 0 cs.length (cs ++ List.replicate (s.length - cs.length) 0))) (qsD cs)
      rw [ocut]; exact LeD.refl _) ?_
    refine awp_loop1 (fun (i : Nat) => ([(1, .d (.int .i64 m)), (5, .d (.ptr [.fn 24 (capF c b bits)] 0)), (6, .ptr 6 0), (7, .d (.int .i64 0)), (10, .d (.ptr [qsD s] 0)), (11, .ptr 11 0), (12, .ptr 12 0), (13, .fn 47 [.d (.ptr [.fn 24 (capF c b bits)] 0), .d (.ptr [qsD s] 0), .ptr 12 0]), (70, .d (qsD cs)), (71, .d (.int .i64 cs.length)), (72, .d (.int .i64 i))], [(6, .box 36 ([.nils, .bool false, .nils, .nils, .bool false, .nils, .nils, .bool false, .nils, .nils, .int .i64 0].map V.d)), (11, .box 34 ((iC (rq lo) (rq hi)).map V.d)), (12, lsB (B1 i).1 (B1 i).2.1 (B1 i).2.2)])) (fun i => i ≤ cs.length) (fun i => cs.length - i) 0 (by omega) ⟨rfl, rfl, rfl, rfl, rfl, rfl, rfl, rfl, rfl, rfl, rfl, rfl⟩ ⟨rfl, rfl, by rw [b10]; rfl, trivial⟩ (fun i hi' => ?_)
    by_cases h3 : i < cs.length
    · have o := of1 i h3
      clear of1 of2 lwS lwo hGo oP hG' pg sb cb mi op b10 b12
      repeat' (first | refine wG ?_ | refine wD [] o ?_ | refine rgK 5 8 [8] ?_ | refine rgK 13 11 [11] ?_ | refine rgK 28 10 [19] ?_ | refine rg 32 8 ?_ | refine wS ?_ ?_ <;> intro _ | refine finG ?_)
      exact ⟨i + 1, by omega, by omega, ⟨rfl, rfl, rfl, rfl, rfl, rfl, rfl, rfl, rfl, rfl, iv (by omega), rfl⟩, rfl, rfl, rfl, trivial⟩
    · have e : i = cs.length := by omega
      subst e
      rw [← b12]
      clear of1 sb cb b10 b12
      repeat' (first | refine stopA 24 tt ?_ | refine wG ?_ | refine rgK 5 8 [8] ?_ | refine rgK 13 11 [11] ?_ | refine rgK 28 10 [19] ?_ | refine rg 32 8 ?_ | refine wS ?_ ?_ <;> intro _ | refine finG ?_)
      refine stopOut ?_
      refine awp_rebox 16 (rC (rq 0)) rfl rfl (by rw [rq_zero]; exact leL) ?_
      repeat' (first | refine wG ?_ | refine wC pa ?_ | refine rgK 5 8 [8] ?_ | refine rgK 13 11 [11] ?_ | refine rgK 28 10 [19] ?_ | refine rg 32 8 ?_ | refine wS ?_ ?_ <;> intro _ | refine finG ?_)
      refine awp_loop1 (fun (i : Nat) => ([(1, .d (.int .i64 m)), (5, .d (.ptr [.fn 24 (capF c b bits)] 0)), (6, .ptr 6 0), (7, .d (.int .i64 0)), (10, .d (.ptr [qsD s] 0)), (11, .ptr 11 0), (12, .ptr 12 0), (13, .fn 47 [.d (.ptr [.fn 24 (capF c b bits)] 0), .d (.ptr [qsD s] 0), .ptr 12 0]), (16, .ptr 16 0), (83, .d (isD ps)), (84, .d (.int .i64 m)), (85, .d (.int .i64 i))], [(6, .box 36 ([.nils, .bool false, .nils, .nils, .bool false, .nils, .nils, .bool false, .nils, .nils, .int .i64 0].map V.d)), (11, .box 34 ((iC (rq lo) (rq hi)).map V.d)), (12, lsB (B2 i).1 (B2 i).2.1 (B2 i).2.2), (16, .box 30 ((rC (rq (lw i))).map V.d))])) (fun i => i ≤ m) (fun i => m - i) 0 (by omega) ⟨rfl, rfl, rfl, rfl, rfl, rfl, rfl, rfl, rfl, rfl, iv (by omega), rfl, rfl⟩ ⟨rfl, rfl, rfl, by rw [lw0]; rfl, trivial⟩ (fun i hi' => ?_)
      by_cases h4 : i < m
      · have o := of2 i h4
        have q1 := mi i h4
        have q2 := oP i h4
        have q3 := hG' i h4
        have st := lwS i
        have c2 := rational_CompareQ (G i).1 (lw i) ((hGo i h4).1.mono (by decide)) ((lwo i hi').mono (by decide))
        have n2' := cmpQ_neg (G i).1 (lw i)
        have eP := pg i h4
        generalize hk2 : cmpQ (G i).1 (lw i) = k2 at *
        generalize hmd : ((P i).1 + (P i).2) / 2 = md at *
        clear of2 lwS lwo hGo oP hG' pg mi op
        rw [← eP] at q1 q2
        by_cases h5 : i = 0
        · rw [if_pos (.inl h5)] at st
          clear n2' hk2 hmd
          repeat' (first | refine wG ?_ | refine wD [] o ?_ | refine wC q1 ?_ | refine wC q2 ?_ | refine wC q3 ?_ | refine rgK 5 8 [8] ?_ | refine rgK 13 11 [11] ?_ | refine rgK 28 10 [19] ?_ | refine rg 32 8 ?_ | refine wS ?_ ?_ <;> intro _ | refine finG ?_)
          exact ⟨i + 1, by omega, by omega, ⟨rfl, rfl, rfl, rfl, rfl, rfl, rfl, rfl, rfl, rfl, rfl, iv (by omega), rfl⟩, rfl, rfl, rfl, by rw [st]; rfl, trivial⟩
        · have h5' : ¬ ((i : Int) = 0) := by omega
          by_cases h6' : (G i).1 < lw i
          · rw [if_pos (.inr h6')] at st
            have g := n2'.2 h6'
            clear n2' hk2 hmd h6'
            repeat' (first | refine wG ?_ | refine wD [] o ?_ | refine wC q1 ?_ | refine wC q2 ?_ | refine wC q3 ?_ | refine wC c2 ?_ | refine rgK 5 8 [8] ?_ | refine rgK 13 11 [11] ?_ | refine rgK 28 10 [19] ?_ | refine rg 32 8 ?_ | refine wS ?_ ?_ <;> intro _ | refine finG ?_)
            exact ⟨i + 1, by omega, by omega, ⟨rfl, rfl, rfl, rfl, rfl, rfl, rfl, rfl, rfl, rfl, rfl, iv (by omega), rfl⟩, rfl, rfl, rfl, by rw [st]; rfl, trivial⟩
          · rw [if_neg (by intro e; rcases e with e | e; exact h5 e; exact h6' e)] at st
            have g : ¬ k2 < 0 := fun e => h6' (n2'.1 e)
            clear n2' hk2 hmd h6'
            repeat' (first | refine wG ?_ | refine wD [] o ?_ | refine wC q1 ?_ | refine wC q2 ?_ | refine wC q3 ?_ | refine wC c2 ?_ | refine rgK 5 8 [8] ?_ | refine rgK 13 11 [11] ?_ | refine rgK 28 10 [19] ?_ | refine rg 32 8 ?_ | refine wS ?_ ?_ <;> intro _ | refine finG ?_)
            all_goals first | exact ⟨i + 1, by omega, by omega, ⟨rfl, rfl, rfl, rfl, rfl, rfl, rfl, rfl, rfl, rfl, rfl, iv (by omega), rfl⟩, rfl, rfl, rfl, by rw [st]; rfl, trivial⟩ | (exfalso; omega)
      · have e : i = m := by omega
        have az := rational_AddZl (lw m) ((lwo m (Nat.le_refl _)).mono (by decide))
        subst e
        clear of2 lwS lwo hGo oP hG' pg mi op
        repeat' (first | refine wG ?_ | refine wC az ?_ | refine rgK 5 8 [8] ?_ | refine rgK 13 11 [11] ?_ | refine rgK 28 10 [19] ?_ | refine rg 32 8 ?_ | refine wS ?_ ?_ <;> intro _ | refine finTG ?_)
        exact leT
end Go.Proofs.YtcbadnbonoajjaaGreat

set_option maxHeartbeats 8000000
namespace Go.Proofs.YtcbadnbonoajjaaGreat
open Go.Vw
attribute [local irreducible] awp awpL awpR

end Go.Proofs.YtcbadnbonoajjaaGreat

/-
  Fit and FitTau; the reference's scales. Conditions: as each says.
-/
set_option maxHeartbeats 8000000
namespace Go.Proofs.YtcbadnbonoajjaaGreat
open Go.Vw
attribute [local irreducible] awp awpL awpR

theorem slocation_Fit (X : List R3) (c b : Rat) (n parts : Int) {coef : List Rat} {v : I2} {lw : Rat} {m e : Int} (h : Ret Tryz.prog 23 [rsD X, .int .i64 parts, .fn 24 (capF c b n)] (· = .tup [sfD coef v lw m, .int .i64 e])) : Ret Tryz.prog 9 [rsD X, qD c, qD b, .int .i64 n, .int .i64 parts] (· = .tup [sfD coef v lw m, .int .i64 e]) := by
  refine ret_of_awp tab Tryz.func9 rfl rfl (Nat.le_of_ble_eq_true rfl) (fun w0 F0 => ?_)
  repeat' (first | refine stopA 1 tt ?_ | refine wG ?_ | refine wS ?_ ?_ <;> intro _ | refine finG ?_)
  refine stopOut ?_
  refine awp_frz 6 rfl ?_
  refine awp_frz 7 rfl ?_
  refine awp_frz 8 rfl ?_
  repeat' (first | refine wG ?_ | refine wC h ?_ | refine wS ?_ ?_ <;> intro _ | refine finTG ?_)
  exact leT
theorem slocation_FitTau (X : List R3) (c b d : R3) (n parts : Int) {coef : List Rat} {v : I2} {lw : Rat} {m e : Int} (h : Ret Tryz.prog 23 [rsD X, .int .i64 parts, .fn 37 (capT c b d n)] (· = .tup [sfD coef v lw m, .int .i64 e])) : Ret Tryz.prog 20 [rsD X, rD c, rD b, rD d, .int .i64 n, .int .i64 parts] (· = .tup [sfD coef v lw m, .int .i64 e]) := by
  refine ret_of_awp tab Tryz.func20 rfl rfl (Nat.le_of_ble_eq_true rfl) (fun w0 F0 => ?_)
  repeat' (first | refine stopA 1 tt ?_ | refine wG ?_ | refine wS ?_ ?_ <;> intro _ | refine finG ?_)
  refine stopOut ?_
  refine awp_frz 7 rfl ?_
  refine awp_frz 8 rfl ?_
  refine awp_frz 9 rfl ?_
  refine awp_frz 10 rfl ?_
  repeat' (first | refine wG ?_ | refine wC h ?_ | refine wS ?_ ?_ <;> intro _ | refine finTG ?_)
  exact leT
theorem ref19_one : Ret Tryz.prog 74 [] (· = qD 1) := by
  have h := ref03_FromIntW 1 (by decide) (by decide)
  rw [show (((1 : Int) : Rat)) = 1 from rfl] at h
  refine ret_of_awp tab Tryz.func74 rfl rfl (Nat.le_of_ble_eq_true rfl) (fun w0 F0 => ?_)
  repeat' (first | refine wG ?_ | refine wC h ?_ | refine wS ?_ ?_ <;> intro _ | refine finG ?_)
  rfl
theorem ref19_Numbers (c b d : R3) (bits : Int) (hc : RatOk c 1000) (hb : RatOk b 1000) (hd : RatOk d 1000) (b1 : -9223372036854775808 ≤ bits) (b2 : bits < 9223372036854775808) : Ret Tryz.prog 36 [rD c, rD b, rD d, .int .i64 bits] (· = .bool (decide (numOk (rv c) (rv b) (rv d) bits))) := by
  have s1 := ref03_Sign c (hc.up (by decide))
  have s2 := ref03_Sign d (hd.up (by decide))
  have s3 := ref03_Sign b (hb.up (by decide))
  have o1 := ref19_one
  have l1 := ref03_Less b (rq 1) (hb.up (by decide)) (ok_rq (okQ_one.mono (by decide)))
  rw [rv_rq] at l1
  have z : ∀ x : R3, 0 < (rv x).num.sign ↔ 0 < rv x := fun x => by rw [← num_gt0, Int.sign_pos_iff]
  have z1 := z c
  have z2 := z d
  have z3 := z b
  clear z hc hb hd
  generalize (rv c).num.sign = k1 at *
  generalize (rv d).num.sign = k2 at *
  generalize (rv b).num.sign = k3 at *
  by_cases a1 : 0 < rv c
  · have g1 := z1.2 a1
    by_cases a2 : 0 < rv d
    · have g2 := z2.2 a2
      by_cases a3 : 0 < rv b
      · have g3 := z3.2 a3
        by_cases a4 : rv b < 1
        · rw [decide_eq_true a4] at l1
          by_cases a5 : 0 ≤ bits ∧ bits ≤ 128
          · rw [decide_eq_true (show numOk (rv c) (rv b) (rv d) bits from ⟨a1, a2, a3, a4, a5.1, a5.2⟩)]
            clear z1 z2 z3 a1 a2 a3 a4
            refine ret_of_awp tab Tryz.func36 rfl rfl (Nat.le_of_ble_eq_true rfl) (fun w0 F0 => ?_)
            repeat' (first | refine wG ?_ | refine wC s1 ?_ | refine wC s2 ?_ | refine wC s3 ?_ | refine wC o1 ?_ | refine wC l1 ?_ | refine rg 1 16 ?_ | refine wS ?_ ?_ <;> intro _ | refine finG ?_)
            all_goals first | rfl | (refine congrArg D.bool ?_; simp only [decide_eq_true_eq]; omega) | (exfalso; omega)
          · rw [decide_eq_false (fun q : numOk (rv c) (rv b) (rv d) bits => a5 ⟨q.2.2.2.2.1, q.2.2.2.2.2⟩)]
            clear z1 z2 z3 a1 a2 a3 a4
            refine ret_of_awp tab Tryz.func36 rfl rfl (Nat.le_of_ble_eq_true rfl) (fun w0 F0 => ?_)
            repeat' (first | refine wG ?_ | refine wC s1 ?_ | refine wC s2 ?_ | refine wC s3 ?_ | refine wC o1 ?_ | refine wC l1 ?_ | refine rg 1 16 ?_ | refine wS ?_ ?_ <;> intro _ | refine finG ?_)
            all_goals first | rfl | (refine congrArg D.bool ?_; simp only [decide_eq_false_iff_not]; omega) | (exfalso; omega)
        · rw [decide_eq_false a4] at l1
          rw [decide_eq_false (fun q : numOk (rv c) (rv b) (rv d) bits => a4 q.2.2.2.1)]
          clear z1 z2 z3 a1 a2 a3 a4
          refine ret_of_awp tab Tryz.func36 rfl rfl (Nat.le_of_ble_eq_true rfl) (fun w0 F0 => ?_)
          repeat' (first | refine wG ?_ | refine wC s1 ?_ | refine wC s2 ?_ | refine wC s3 ?_ | refine wC o1 ?_ | refine wC l1 ?_ | refine rg 1 16 ?_ | refine wS ?_ ?_ <;> intro _ | refine finG ?_)
          all_goals first | rfl | (exfalso; omega)
      · have g3 : ¬ 0 < k3 := fun e => a3 (z3.1 e)
        rw [decide_eq_false (fun q : numOk (rv c) (rv b) (rv d) bits => a3 q.2.2.1)]
        clear z1 z2 z3 a1 a2 a3
        refine ret_of_awp tab Tryz.func36 rfl rfl (Nat.le_of_ble_eq_true rfl) (fun w0 F0 => ?_)
        repeat' (first | refine wG ?_ | refine wC s1 ?_ | refine wC s2 ?_ | refine wC s3 ?_ | refine wC o1 ?_ | refine wC l1 ?_ | refine rg 1 16 ?_ | refine wS ?_ ?_ <;> intro _ | refine finG ?_)
        all_goals first | rfl | (exfalso; omega)
    · have g2 : ¬ 0 < k2 := fun e => a2 (z2.1 e)
      rw [decide_eq_false (fun q : numOk (rv c) (rv b) (rv d) bits => a2 q.2.1)]
      clear z1 z2 z3 a1 a2
      refine ret_of_awp tab Tryz.func36 rfl rfl (Nat.le_of_ble_eq_true rfl) (fun w0 F0 => ?_)
      repeat' (first | refine wG ?_ | refine wC s1 ?_ | refine wC s2 ?_ | refine wC s3 ?_ | refine wC o1 ?_ | refine wC l1 ?_ | refine rg 1 16 ?_ | refine wS ?_ ?_ <;> intro _ | refine finG ?_)
      all_goals first | rfl | (exfalso; omega)
  · have g1 : ¬ 0 < k1 := fun e => a1 (z1.1 e)
    rw [decide_eq_false (fun q : numOk (rv c) (rv b) (rv d) bits => a1 q.1)]
    clear z1 z2 z3 a1
    refine ret_of_awp tab Tryz.func36 rfl rfl (Nat.le_of_ble_eq_true rfl) (fun w0 F0 => ?_)
    repeat' (first | refine wG ?_ | refine wC s1 ?_ | refine wC s2 ?_ | refine wC s3 ?_ | refine wC o1 ?_ | refine wC l1 ?_ | refine rg 1 16 ?_ | refine wS ?_ ?_ <;> intro _ | refine finG ?_)
    all_goals first | rfl | (exfalso; omega)
theorem ref20_Error (X : List R3) (c b d : R3) (bits parts : Int) (hX : X.length ≤ 9223372036854775807) (hc : RatOk c 1000) (hb : RatOk b 1000) (hd : RatOk d 1000) (b1 : -9223372036854775808 ≤ bits) (b2 : bits < 9223372036854775808) (p1 : -9223372036854775808 ≤ parts) (p2 : parts < 9223372036854775808) : Ret Tryz.prog 19 [rsD X, rD c, rD b, rD d, .int .i64 bits, .int .i64 parts] (· = .int .i64 (locErr X.length (numOk (rv c) (rv b) (rv d) bits) parts)) := by
  have nm := ref19_Numbers c b d bits hc hb hd b1 b2
  unfold locErr
  clear hc hb hd
  by_cases h0 : X.length = 0
  · rw [if_pos h0]
    refine ret_of_awp tab Tryz.func19 rfl rfl (Nat.le_of_ble_eq_true rfl) (fun w0 F0 => ?_)
    repeat' (first | refine wG ?_ | refine wC nm ?_ | refine wS ?_ ?_ <;> intro _ | refine finG ?_)
    rfl
  · rw [if_neg h0]
    by_cases h1 : 64 < X.length
    · rw [if_pos h1]
      refine ret_of_awp tab Tryz.func19 rfl rfl (Nat.le_of_ble_eq_true rfl) (fun w0 F0 => ?_)
      repeat' (first | refine wG ?_ | refine wC nm ?_ | refine wS ?_ ?_ <;> intro _ | refine finG ?_)
      rfl
    · rw [if_neg h1]
      by_cases h2 : numOk (rv c) (rv b) (rv d) bits
      · rw [if_neg (fun q => q h2)]
        rw [decide_eq_true h2] at nm
        clear h2
        by_cases h3 : parts < 1
        · rw [if_pos h3]
          refine ret_of_awp tab Tryz.func19 rfl rfl (Nat.le_of_ble_eq_true rfl) (fun w0 F0 => ?_)
          repeat' (first | refine wG ?_ | refine wC nm ?_ | refine wS ?_ ?_ <;> intro _ | refine finG ?_)
          rfl
        · rw [if_neg h3]
          by_cases h4 : 1024 < parts
          · rw [if_pos h4]
            refine ret_of_awp tab Tryz.func19 rfl rfl (Nat.le_of_ble_eq_true rfl) (fun w0 F0 => ?_)
            repeat' (first | refine wG ?_ | refine wC nm ?_ | refine wS ?_ ?_ <;> intro _ | refine finG ?_)
            rfl
          · rw [if_neg h4]
            refine ret_of_awp tab Tryz.func19 rfl rfl (Nat.le_of_ble_eq_true rfl) (fun w0 F0 => ?_)
            repeat' (first | refine wG ?_ | refine wC nm ?_ | refine wS ?_ ?_ <;> intro _ | refine finG ?_)
            rfl
      · rw [if_pos h2]
        rw [decide_eq_false h2] at nm
        clear h2
        refine ret_of_awp tab Tryz.func19 rfl rfl (Nat.le_of_ble_eq_true rfl) (fun w0 F0 => ?_)
        repeat' (first | refine wG ?_ | refine wC nm ?_ | refine wS ?_ ?_ <;> intro _ | refine finG ?_)
        rfl
end Go.Proofs.YtcbadnbonoajjaaGreat

/-
  Parts of the range of made numbers, and the scale far away. Conditions: as each says.
-/
namespace Go.Vw
def GN (N B : Int) (x : Rat) : Prop := ∃ z : Int, -B ≤ z ∧ z ≤ B ∧ x * (N : Rat) = (z : Rat)
theorem GN.up {N B : Int} {x : Rat} (h : GN N B x) (k : Int) (hk : 0 ≤ k) : GN (N * k) (B * k) x := by
  obtain ⟨z, h1, h2, e⟩ := h
  refine ⟨z * k, ?_, ?_, ?_⟩
  · have := Int.mul_le_mul_of_nonneg_right h1 hk
    rw [Int.neg_mul] at this
    exact this
  · exact Int.mul_le_mul_of_nonneg_right h2 hk
  · rw [Rat.intCast_mul, Rat.intCast_mul, ← Rat.mul_assoc, e]
theorem GN.sub {N B C : Int} {x y : Rat} (h : GN N B x) (g : GN N C y) : GN N (B + C) (x - y) := by
  obtain ⟨z, h1, h2, e⟩ := h
  obtain ⟨w, g1, g2, f⟩ := g
  refine ⟨z - w, by omega, by omega, ?_⟩
  rw [Rat.intCast_sub]
  grind
theorem GN.gd {B : Int} {x : Rat} (h : GN 20160 B x) (hB : B ≤ 4000000) : Gd x := by
  obtain ⟨z, h1, h2, e⟩ := h
  refine ⟨z, by omega, by omega, ?_⟩
  rw [Rat.divInt_eq_div]
  have : ((20160 : Int) : Rat) = 20160 := rfl
  rw [this] at e ⊢
  grind
theorem GN.zero (N B : Int) (hB : 0 ≤ B) : GN N B 0 := ⟨0, by omega, hB, Rat.zero_mul _⟩
def endP (x : I2) (n k : Int) : Rat := x.1 + (k : Rat) / (n : Rat) * (x.2 - x.1)
theorem GN.part {lo hi : Rat} {m k : Int} (h1 : GN 12 360 lo) (h2 : GN 12 360 hi) (hle : lo ≤ hi) (m1 : 1 ≤ m) (m2 : m ≤ 8) (k1 : 0 ≤ k) (k2 : k ≤ m) : GN 10080 302400 (endP (lo, hi) m k) := by
  obtain ⟨l, l1, l2, el⟩ := h1
  obtain ⟨h, h1, h2, eh⟩ := h2
  have c12 : ((12 : Int) : Rat) = 12 := rfl
  rw [c12] at el eh
  have hlh : l ≤ h := by
    have : (l : Rat) ≤ (h : Rat) := by rw [← el, ← eh]; grind
    exact Rat.intCast_le_intCast.1 this
  have hd : ∃ q : Int, q * m = 840 := by
    have : m = 1 ∨ m = 2 ∨ m = 3 ∨ m = 4 ∨ m = 5 ∨ m = 6 ∨ m = 7 ∨ m = 8 := by omega
    rcases this with h | h | h | h | h | h | h | h <;> subst h
    · exact ⟨840, by decide⟩
    · exact ⟨420, by decide⟩
    · exact ⟨280, by decide⟩
    · exact ⟨210, by decide⟩
    · exact ⟨168, by decide⟩
    · exact ⟨140, by decide⟩
    · exact ⟨120, by decide⟩
    · exact ⟨105, by decide⟩
  obtain ⟨q, hq⟩ := hd
  have q0 : 0 ≤ q := by
    by_cases g : q < 0
    · have := Int.mul_neg_of_neg_of_pos g (show 0 < m by omega)
      omega
    · omega
  have qk : q * k ≤ 840 := by rw [← hq]; exact Int.mul_le_mul_of_nonneg_left k2 q0
  have qk0 : 0 ≤ q * k := Int.mul_nonneg q0 k1
  have u1 : q * k * (h - l) ≤ 840 * (h - l) := Int.mul_le_mul_of_nonneg_right qk (by omega)
  have u0 : 0 ≤ q * k * (h - l) := Int.mul_nonneg qk0 (by omega)
  refine ⟨840 * l + q * k * (h - l), by omega, by omega, ?_⟩
  have hm : (m : Rat) ≠ 0 := fun e => by have := Rat.intCast_eq_zero_iff.1 e; omega
  have hqm : (q : Rat) * (m : Rat) = 840 := by rw [← Rat.intCast_mul, hq]; rfl
  have ekm : (k : Rat) / (m : Rat) * 840 = (q : Rat) * (k : Rat) := by
    rw [← hqm]
    have := div_mul_cancel' (a := (k : Rat)) (b := (m : Rat)) hm
    grind
  unfold endP
  have c1 : ((10080 : Int) : Rat) = 10080 := rfl
  have c2 : ((840 : Int) : Rat) = 840 := rfl
  rw [Rat.intCast_add, Rat.intCast_mul, Rat.intCast_mul, Rat.intCast_mul, Rat.intCast_sub, c1, c2, ← el, ← eh]
  simp only
  generalize (k : Rat) / (m : Rat) = f at *
  generalize (q : Rat) * (k : Rat) = g at *
  grind
theorem GN.mid {x y : Rat} (h : GN 10080 302400 x) (g : GN 10080 302400 y) : GN 20160 604800 ((x + y) / 2) := by
  obtain ⟨z, h1, h2, e⟩ := h
  obtain ⟨w, g1, g2, f⟩ := g
  refine ⟨z + w, by omega, by omega, ?_⟩
  have c1 : ((10080 : Int) : Rat) = 10080 := rfl
  have c2 : ((20160 : Int) : Rat) = 20160 := rfl
  rw [c1] at e f
  rw [Rat.intCast_add, c2, ← e, ← f]
  grind
theorem GN.numQ {n d : Int} (h1 : -30 ≤ n) (h2 : n ≤ 30) (d1 : 1 ≤ d) (d2 : d ≤ 4) : GN 12 360 (Rat.divInt n d) := by
  have hq : ∃ q : Int, q * d = 12 ∧ 1 ≤ q ∧ q ≤ 12 := by
    have : d = 1 ∨ d = 2 ∨ d = 3 ∨ d = 4 := by omega
    rcases this with h | h | h | h <;> subst h
    · exact ⟨12, by decide⟩
    · exact ⟨6, by decide⟩
    · exact ⟨4, by decide⟩
    · exact ⟨3, by decide⟩
  obtain ⟨q, e, q1, q2⟩ := hq
  refine ⟨q * n, ?_, ?_, ?_⟩
  · have := Int.mul_le_mul_of_nonneg_left h1 (show 0 ≤ q by omega)
    omega
  · have := Int.mul_le_mul_of_nonneg_left h2 (show 0 ≤ q by omega)
    omega
  · rw [Rat.divInt_eq_div, Rat.intCast_mul, ← e, Rat.intCast_mul]
    have hd : (d : Rat) ≠ 0 := fun k => by have := Rat.intCast_eq_zero_iff.1 k; omega
    have := div_mul_cancel' (a := (n : Rat)) (b := (d : Rat)) hd
    grind
theorem GN.bound {x : Rat} (h : GN 12 360 x) : -30 ≤ x ∧ x ≤ 30 := by
  obtain ⟨z, h1, h2, e⟩ := h
  have a : (z : Rat) ≤ ((360 : Int) : Rat) := Rat.intCast_le_intCast.2 h2
  have b : ((-360 : Int) : Rat) ≤ (z : Rat) := Rat.intCast_le_intCast.2 h1
  have c1 : ((12 : Int) : Rat) = 12 := rfl
  have c2 : ((360 : Int) : Rat) = 360 := rfl
  have c3 : ((-360 : Int) : Rat) = -360 := rfl
  rw [c1] at e
  rw [c2] at a
  rw [c3] at b
  constructor <;> grind
theorem mnS_anti {r : List Rat} {s t : Rat} (hr : r ≠ []) (hs : 0 < s) (h : s ≤ t) : mnS r t ≤ mnS r s := by
  rw [mnS_eq, mnS_eq]
  refine divLe (sumQ_mono fun x hx => rho_mono ?_) (len_pos hr)
  have ht : 0 < t := by grind
  have h1 := sq_nonneg' x
  generalize x * x = y at *
  have e1 : y / s * s = y := div_mul_cancel' (by grind)
  have e2 : y / t * t = y := div_mul_cancel' (by grind)
  have n1 := div_nonneg' h1 ht
  refine Rat.not_lt.1 fun k => ?_
  have h3 : y / s * s < y / t * s := Rat.mul_lt_mul_of_pos_right k hs
  have h4 : y / t * s ≤ y / t * t := Rat.mul_le_mul_of_nonneg_left h n1
  grind
theorem shr_zero {r : List Rat} (h : ∀ x ∈ r, x = 0) : shrQ r = 0 := by
  have : nzc r = 0 := by
    unfold nzc
    rw [List.length_eq_zero_iff, List.filter_eq_nil_iff]
    intro x hx
    simp [h x hx]
  unfold shrQ
  rw [this]
  have e : (((0 : Nat) : Int) : Rat) = 0 := rfl
  rw [e, Rat.div_def, Rat.zero_mul]
def dstP (x : I2) (v : Rat) : Rat := if v < x.1 then x.1 - v else if x.2 < v then v - x.2 else 0
theorem sq_le_of {a b : Rat} (h0 : 0 ≤ a) (h : a ≤ b ∨ a ≤ -b) : a * a ≤ b * b := by
  rcases h with h | h
  · exact mul_mono2 h h h0 (Rat.le_trans h0 h)
  · have := mul_mono2 h h h0 (Rat.le_trans h0 h)
    grind
theorem far_up {s : List Rat} {a hi far : Rat} (hs : ∀ v ∈ s, v ≤ hi) (ha : a ≤ hi) (hf : hi ≤ far) : ∀ v ∈ s, dstP (a, hi) v * dstP (a, hi) v ≤ (v - far) * (v - far) := fun v hv => by
  have h1 := hs v hv
  unfold dstP
  simp only
  split
  · exact sq_le_of (by grind) (.inr (by grind))
  · rw [if_neg (by grind)]
    have := sq_nonneg' (v - far)
    grind
theorem far_dn {s : List Rat} {b lo far : Rat} (hs : ∀ v ∈ s, lo ≤ v) (hb : lo ≤ b) (hf : far ≤ lo) : ∀ v ∈ s, dstP (lo, b) v * dstP (lo, b) v ≤ (v - far) * (v - far) := fun v hv => by
  have h1 := hs v hv
  unfold dstP
  simp only
  rw [if_neg (by grind)]
  split
  · exact sq_le_of (by grind) (.inl (by grind))
  · have := sq_nonneg' (v - far)
    grind
theorem at_least {s x : List Rat} {g : Rat → Rat} {far c lw Gi : Rat} (hp : s.Perm x) (hs : s ≠ []) (hc : 0 < c) (hl : lw ≤ Gi) (h0 : 0 < lw) (hg : 1 / 2 < mnS (s.map g) (c * Gi)) (hd : ∀ v ∈ s, g v * g v ≤ (v - far) * (v - far)) : 1 / 2 < mnS (x.map fun v => v - far) (c * lw) ∧ 1 / 2 < shrQ (x.map fun v => v - far) := by
  have p1 : 0 < c * lw := Rat.mul_pos hc h0
  have l1 : c * lw ≤ c * Gi := Rat.mul_le_mul_of_nonneg_left hl (Rat.le_of_lt hc)
  have a1 := mnS_anti (r := s.map g) (by simpa using hs) p1 l1
  have a2 := mnS_mono (l := s) (f := g) (g := fun v => v - far) hs p1 hd
  have a3 : mnS (s.map fun v => v - far) (c * lw) = mnS (x.map fun v => v - far) (c * lw) := mnS_perm (hp.map _)
  have x0 : x ≠ [] := fun e => hs (by rw [e] at hp; exact hp.eq_nil)
  have a4 := mnS_shr (r := x.map fun v => v - far) (by simpa using x0) p1
  constructor <;> grind
end Go.Vw

/-
  Fit of made numbers: what holds of its result. Conditions: at most 6 numbers over 12, at most 8 parts, b = 1/2.
-/
set_option maxHeartbeats 8000000
namespace Go.Proofs.YtcbadnbonoajjaaGreat
open Go.Vw
attribute [local irreducible] awp awpL awpR

theorem scale_fam (c : Rat) (n : Nat) (hc : Scl c) (hn : n ≤ 8) : ∃ Sc : List Rat → I2, ∀ r, Fam r → Ret Tryz.prog 25 [qsD r, qD c, qD (1 / 2), .int .i64 n] (· = .tup [iQ (Sc r), .int .i64 0]) ∧ okI 39000 (Sc r) ∧ ((Sc r = (0, 0) ∧ ¬ 1 / 2 < shrQ r) ∨ (0 < (Sc r).1 ∧ 1 / 2 < mnS r (c * (Sc r).1))) := by
  suffices key : ∀ r : List Rat, ∃ i : I2, Fam r → Ret Tryz.prog 25 [qsD r, qD c, qD (1 / 2), .int .i64 n] (· = .tup [iQ i, .int .i64 0]) ∧ okI 39000 i ∧ ((i = (0, 0) ∧ ¬ 1 / 2 < shrQ r) ∨ (0 < i.1 ∧ 1 / 2 < mnS r (c * i.1))) from ⟨fun r => Classical.choose (key r), fun r => Classical.choose_spec (key r)⟩
  intro r
  by_cases h : Fam r
  · by_cases hs : 1 / 2 < shrQ r
    · obtain ⟨i, h1, h2, h3, h4⟩ := mscale_Scale r c (1 / 2) n h hc hn rfl hs
      exact ⟨i, fun _ => ⟨h1, ⟨h4.1.mono (by decide), h4.2.mono (by decide)⟩, .inr ⟨h2, h3⟩⟩⟩
    · have hl := h.len
      have e := mscale_Scale0 r (rq c) (rq (1 / 2)) n h.ne (by omega) (fun x hx => (h.ok x hx).mono (by decide)) (ok_rq (hc.ok.mono (by decide))) (ok_rq ((okQ_one.div okQ_two2 (by decide)).mono (by decide))) (by omega) (by omega) (by rw [rv_rq]; exact hc.pos) (by rw [rv_rq]; decide +kernel) (by rw [rv_rq]; decide +kernel) (by rw [rv_rq]; exact hs)
      refine ⟨(0, 0), fun _ => ⟨?_, ⟨okQ_zero (by decide), okQ_zero (by decide)⟩, .inl ⟨rfl, hs⟩⟩⟩
      rw [show iQ ((0 : Rat), (0 : Rat)) = iD r0 r0 by unfold iQ; simp only [rq_zero]]
      exact e
  · exact ⟨(0, 0), fun k => absurd k h⟩
theorem dst_gd {a b v : Rat} (ha : GN 20160 604800 a) (hb : GN 20160 604800 b) (hv : GN 20160 604800 v) : Gd (dst1 (a, b) v) := by
  unfold dst1
  split
  · exact (ha.sub hv).gd (by decide)
  · split
    · exact (hv.sub hb).gd (by decide)
    · exact (GN.zero 20160 0 (by decide)).gd (by decide)
theorem fam_dst {s : List Rat} {x : I2} (h0 : s ≠ []) (h6 : s.length ≤ 6) (hs : ∀ v ∈ s, GN 12 360 v) (ha : GN 20160 604800 x.1) (hb : GN 20160 604800 x.2) : Fam (s.map (dst1 x)) :=
  ⟨by simpa using h0, by rw [List.length_map]; exact h6, fun y hy => by
    obtain ⟨v, hv, rfl⟩ := List.mem_map.1 hy
    exact dst_gd ha hb ((hs v hv).up 1680 (by decide))⟩
theorem fit_gen (X : List R3) (x : List Rat) (c : Rat) (bits n : Nat) (ex : X.map rv = x) (hX : ∀ r ∈ X, RatOk r 40) (h0 : 0 < X.length) (h6 : X.length ≤ 6) (hx : ∀ v ∈ x, GN 12 360 v) (hc : Scl c) (hb : bits ≤ 8) (n1 : 1 ≤ n) (n8 : n ≤ 8) : ∃ (coef : List Rat) (v : I2) (lw : Rat) (m : Nat), Ret Tryz.prog 9 [rsD X, qD c, qD (1 / 2), .int .i64 bits, .int .i64 n] (· = .tup [sfD coef v lw m, .int .i64 0]) ∧ coef.length = 1 ∧ okI 1000000 v ∧ okQ 39000 lw ∧ (m = 1 → lw = 0) ∧ (n = 1 → m = 1) ∧ (∀ far, ((∀ v ∈ x, v ≤ far) ∨ (∀ v ∈ x, far ≤ v)) → 0 < lw → 1 / 2 < mnS (x.map fun v => v - far) (c * lw) ∧ 1 / 2 < shrQ (x.map fun v => v - far)) ∧ ((∀ v ∈ x, v = x.getD 0 0) → v = (0, 0) ∧ m = 1) := by
  obtain ⟨Sc, hSc⟩ := scale_fam c bits hc hb
  have lx : x.length = X.length := by rw [← ex, List.length_map]
  obtain ⟨s, es⟩ : ∃ s, srt x = s := ⟨_, rfl⟩
  have sp : s.Perm x := by rw [← es]; exact srt_perm x
  have ls : s.length = x.length := sp.length_eq
  have s0 : s ≠ [] := fun e => by rw [e] at ls; simp at ls; omega
  have hs : ∀ v ∈ s, GN 12 360 v := fun v hv => hx v (sp.subset hv)
  have wi := within_srt (l := x) (by omega)
  rw [es, ← ls] at wi
  have win : ∀ v ∈ s, s.getD 0 0 ≤ v ∧ v ≤ s.getD (s.length - 1) 0 := fun v hv => wi v (sp.subset hv)
  have gm : ∀ i, i < s.length → s.getD i 0 ∈ s := fun i hi => by
    rw [List.getD_eq_getElem?_getD, List.getElem?_eq_getElem hi]; exact List.getElem_mem hi
  have hlo := hs _ (gm 0 (by omega))
  have hhi := hs _ (gm (s.length - 1) (by omega))
  have hle : s.getD 0 0 ≤ s.getD (s.length - 1) 0 := (win _ (gm 0 (by omega))).2
  obtain ⟨lo, elo⟩ : ∃ lo, s.getD 0 0 = lo := ⟨_, rfl⟩
  obtain ⟨hi, ehi⟩ : ∃ hi, s.getD (s.length - 1) 0 = hi := ⟨_, rfl⟩
  rw [elo, ehi] at win hle
  rw [elo] at hlo
  rw [ehi] at hhi
  obtain ⟨m, em⟩ : ∃ m : Nat, m = if lo = hi then 1 else n := ⟨_, rfl⟩
  have m1 : 1 ≤ m := by rw [em]; split <;> omega
  have m8 : m ≤ 8 := by rw [em]; split <;> omega
  have pg : ∀ i : Nat, i < m → GN 10080 302400 (partQ (lo, hi) m i).1 ∧ GN 10080 302400 (partQ (lo, hi) m i).2 := fun i h => ⟨GN.part hlo hhi hle (by omega) (by omega) (by omega) (by omega), GN.part hlo hhi hle (by omega) (by omega) (by omega) (by omega)⟩
  have pd : ∀ i : Nat, i < m → Fam (s.map (dst1 (partQ (lo, hi) m i))) := fun i h => fam_dst s0 (by omega) hs ((pg i h).1.up 2 (by decide)) ((pg i h).2.up 2 (by decide))
  have td : ∀ t, (t ∈ cmpL s ∨ ∃ i, i < m ∧ t = ((partQ (lo, hi) m i).1 + (partQ (lo, hi) m i).2) / 2) → Fam (s.map (dst1 (t, t))) := fun t ht => by
    have g : GN 20160 604800 t := by
      rcases ht with ht | ⟨i, hi', rfl⟩
      · exact (hs t (cmpL_mem.1 ht)).up 1680 (by decide)
      · exact GN.mid (pg i hi').1 (pg i hi').2
    exact fam_dst s0 (by omega) hs g g
  have hz0 : Ret Tryz.prog 25 [rsD (List.replicate 1 r0), qD c, qD (1 / 2), .int .i64 bits] (· = .tup [iD r0 r0, .int .i64 0]) := by
    have := scale_r0 (rq c) (rq (1 / 2)) bits (ok_rq (hc.ok.mono (by decide))) (ok_rq ((okQ_one.div okQ_two2 (by decide)).mono (by decide))) (by omega) (by omega)
    rw [rv_rq, rv_rq, if_pos ⟨hc.pos, by decide +kernel, by decide +kernel, by omega, by omega⟩] at this
    exact this
  have hz : Ret Tryz.prog 24 (.full (rsD (List.replicate 1 r0)) :: capF c (1 / 2) bits) (· = .tup [iD r0 r0, .int .i64 0]) := by
    have h := hz0
    have k : Ret Tryz.prog 24 (rsD (List.replicate 1 r0) :: capF c (1 / 2) bits) (· = .tup [iD r0 r0, .int .i64 0]) := by
      clear hSc hx hX win pg pd td
      generalize (1 / 2 : Rat) = hf at *
      refine ret_of_awp tab Tryz.func24 rfl rfl (Nat.le_of_ble_eq_true rfl) (fun w0 F0 => ?_)
      repeat' (first | refine wG ?_ | refine wC h ?_ | refine wS ?_ ?_ <;> intro _ | refine finTG ?_)
      exact leT
    exact k.args (LeT.cons (LeD.unfull _) (LeT.refl _))
  have F := fit_ok X x s (cmpL s) lo hi c (1 / 2) bits n m (fun t => Sc (s.map (dst1 (t, t)))) (fun i => Sc (s.map (dst1 (partQ (lo, hi) m i)))) ex es rfl hX h0 h6 elo ehi n1 (by omega) em hz
    (fun t ht => ⟨slocation_scale _ c (1 / 2) bits (hSc _ (td t ht)).1, ⟨(hSc _ (td t ht)).2.1.1.mono (by decide), (hSc _ (td t ht)).2.1.2.mono (by decide)⟩⟩)
    (fun i hi' => ⟨slocation_scale _ c (1 / 2) bits (hSc _ (pd i hi')).1, ⟨(hSc _ (pd i hi')).2.1.1.mono (by decide), (hSc _ (pd i hi')).2.1.2.mono (by decide)⟩⟩)
  have F2 := slocation_Fit X c (1 / 2) bits n F
  have cne : cmpL s ≠ [] := fun e => by
    have := cmpL_mem.2 (gm 0 (by omega))
    rw [e] at this
    exact nomatch this
  refine ⟨_, _, _, m, F2, (bFold_some (by simp [cne])).2, ?_, ?_, ?_, ?_, ?_, ?_⟩
  · refine bFold_all (P := okI 1000000) ⟨okQ_zero (by decide), okQ_zero (by decide)⟩ _ fun t ht => ?_
    have ht' : t ∈ cmpL s ∨ ∃ i, i < m ∧ t = ((partQ (lo, hi) m i).1 + (partQ (lo, hi) m i).2) / 2 := by
      rcases List.mem_append.1 ht with ht | ht
      · exact .inl ht
      · obtain ⟨i, h1, rfl⟩ := List.mem_map.1 ht
        exact .inr ⟨i, List.mem_range.1 h1, rfl⟩
    have := (hSc _ (td t ht')).2.1
    exact ⟨this.1.mono (by decide), this.2.mono (by decide)⟩
  · exact lowF_all (P := okQ 39000) (okQ_zero (by decide)) m fun i hi' => (hSc _ (pd i hi')).2.1.1
  · -- one part: all distances are 0
    intro h1
    have ew : partQ (lo, hi) 1 0 = (lo, hi) := by
      show ((lo + ((0 : Int) : Rat) / ((1 : Int) : Rat) * (hi - lo)), (lo + ((0 + 1 : Int) : Rat) / ((1 : Int) : Rat) * (hi - lo))) = (lo, hi)
      have c0 : ((0 : Int) : Rat) = 0 := rfl
      have c1 : ((1 : Int) : Rat) = 1 := rfl
      have c2 : ((0 + 1 : Int) : Rat) = 1 := rfl
      rw [c0, c1, c2]
      refine Prod.ext ?_ ?_
      · simp only; grind
      · simp only; grind
    have f0 := hSc _ (pd 0 (by omega))
    subst h1
    have e0 : partQ (lo, hi) ((1 : Nat) : Int) ((0 : Nat) : Int) = (lo, hi) := ew
    rw [e0] at f0
    have z : shrQ (s.map (dst1 (lo, hi))) = 0 := shr_zero fun y hy => by
      obtain ⟨v, hv, rfl⟩ := List.mem_map.1 hy
      have := win v hv
      unfold dst1
      simp only
      rw [if_neg (by grind), if_neg (by grind)]
    have q : Sc (s.map (dst1 (lo, hi))) = (0, 0) := by
      rcases f0.2.2 with h | h
      · exact h.1
      · have := h.2
        have k := (hSc _ (by have := pd 0 (by omega); rw [e0] at this; exact this)).1
        have hf : Fam (s.map (dst1 (lo, hi))) := by have := pd 0 (by omega); rw [e0] at this; exact this
        have sh := mnS_shr hf.ne (Rat.mul_pos hc.pos h.1)
        rw [z] at sh
        have : (0 : Rat) < 1 / 2 := by decide +kernel
        grind
    show (if (0 : Nat) = 0 ∨ _ then (Sc (s.map (dst1 (partQ (lo, hi) ((1 : Nat) : Int) ((0 : Nat) : Int))))).1 else 0) = 0
    rw [if_pos (.inl rfl), e0, q]
  · intro h1
    rw [em, h1]; split <;> rfl
  · intro far hf hlw
    have mr : (m : Int) ≠ 0 := by omega
    have mq : (((m : Nat) : Int) : Rat) ≠ 0 := fun k => mr (Rat.intCast_eq_zero_iff.1 k)
    have mp : (0 : Rat) < (((m : Nat) : Int) : Rat) := by exact_mod_cast (show 0 < m by omega)
    rcases hf with hf | hf
    · have le := lowF_le (fun i => (Sc (s.map (dst1 (partQ (lo, hi) m i)))).1) m (m - 1) (by omega)
      have sp' := hSc _ (pd (m - 1) (by omega))
      have e2 : (partQ (lo, hi) (m : Int) ((m - 1 : Nat) : Int)).2 = hi := by
        show lo + ((((m - 1 : Nat) : Int) + 1 : Int) : Rat) / (((m : Nat) : Int) : Rat) * (hi - lo) = hi
        rw [show ((m - 1 : Nat) : Int) + 1 = (m : Int) by omega]
        have : (((m : Nat) : Int) : Rat) / (((m : Nat) : Int) : Rat) = 1 := by rw [Rat.div_def]; exact Rat.mul_inv_cancel _ mq
        rw [this]; grind
      have e1 : (partQ (lo, hi) (m : Int) ((m - 1 : Nat) : Int)).1 ≤ hi := by
        show lo + (((m - 1 : Nat) : Int) : Rat) / (((m : Nat) : Int) : Rat) * (hi - lo) ≤ hi
        have u : (((m - 1 : Nat) : Int) : Rat) ≤ (((m : Nat) : Int) : Rat) := Rat.intCast_le_intCast.2 (by omega)
        have v := divLe u mp
        have : (((m : Nat) : Int) : Rat) / (((m : Nat) : Int) : Rat) = 1 := by rw [Rat.div_def]; exact Rat.mul_inv_cancel _ mq
        rw [this] at v
        have := Rat.mul_le_mul_of_nonneg_right v (show 0 ≤ hi - lo by grind)
        grind
      generalize partQ (lo, hi) (m : Int) ((m - 1 : Nat) : Int) = p at *
      obtain ⟨pa, pb⟩ := p
      simp only at e1 e2
      subst e2
      rcases sp'.2.2 with h | h
      · rw [h.1] at le
        exact absurd hlw (Rat.not_lt.2 le)
      · exact at_least sp s0 hc.pos le hlw h.2 (far_up (fun v hv => (win v hv).2) e1 (hf _ (sp.subset (by have := gm (s.length - 1) (by omega); rw [ehi] at this; exact this))))
    · have le := lowF_le (fun i => (Sc (s.map (dst1 (partQ (lo, hi) m i)))).1) m 0 (by omega)
      have sp' := hSc _ (pd 0 (by omega))
      have e1 : (partQ (lo, hi) (m : Int) ((0 : Nat) : Int)).1 = lo := by
        show lo + ((0 : Int) : Rat) / (((m : Nat) : Int) : Rat) * (hi - lo) = lo
        have c0 : ((0 : Int) : Rat) = 0 := rfl
        rw [c0, Rat.div_def]; grind
      have e2 : lo ≤ (partQ (lo, hi) (m : Int) ((0 : Nat) : Int)).2 := by
        show lo ≤ lo + ((((0 : Nat) : Int) + 1 : Int) : Rat) / (((m : Nat) : Int) : Rat) * (hi - lo)
        have c1 : ((((0 : Nat) : Int) + 1 : Int) : Rat) = 1 := rfl
        rw [c1]
        have u := div_nonneg' (show (0 : Rat) ≤ 1 by decide) mp
        have := Rat.mul_nonneg u (show 0 ≤ hi - lo by grind)
        grind
      generalize partQ (lo, hi) (m : Int) ((0 : Nat) : Int) = p at *
      obtain ⟨pa, pb⟩ := p
      simp only at e1 e2
      subst e1
      rcases sp'.2.2 with h | h
      · rw [h.1] at le
        exact absurd hlw (Rat.not_lt.2 le)
      · exact at_least sp s0 hc.pos le hlw h.2 (far_dn (fun v hv => (win v hv).1) e2 (hf _ (sp.subset (by have := gm 0 (by omega); rw [elo] at this; exact this))))
  · intro he
    have a1 : lo = x.getD 0 0 := he _ (sp.subset (by have := gm 0 (by omega); rw [elo] at this; exact this))
    have a2 : hi = x.getD 0 0 := he _ (sp.subset (by have := gm (s.length - 1) (by omega); rw [ehi] at this; exact this))
    have hm : m = 1 := by rw [em, if_pos (a1.trans a2.symm)]
    refine ⟨?_, hm⟩
    have zero : ∀ t, t = lo → Fam (s.map (dst1 (t, t))) → Sc (s.map (dst1 (t, t))) = (0, 0) := fun t ht hf => by
      have z : shrQ (s.map (dst1 (t, t))) = 0 := shr_zero fun y hy => by
        obtain ⟨v, hv, rfl⟩ := List.mem_map.1 hy
        have := he v (sp.subset hv)
        unfold dst1
        simp only
        rw [if_neg (by grind), if_neg (by grind)]
      rcases (hSc _ hf).2.2 with h | h
      · exact h.1
      · have sh := mnS_shr hf.ne (Rat.mul_pos hc.pos h.1)
        have h2 := h.2
        rw [z] at sh
        have : (0 : Rat) < 1 / 2 := by decide +kernel
        grind
    refine bFold_all (P := fun i => i = (0, 0)) rfl _ fun t ht => ?_
    have ht' : t ∈ cmpL s ∨ ∃ i, i < m ∧ t = ((partQ (lo, hi) m i).1 + (partQ (lo, hi) m i).2) / 2 := by
      rcases List.mem_append.1 ht with ht | ht
      · exact .inl ht
      · obtain ⟨i, h1, rfl⟩ := List.mem_map.1 ht
        exact .inr ⟨i, List.mem_range.1 h1, rfl⟩
    refine zero t ?_ (td t ht')
    rcases ht' with h | ⟨i, h1, h2⟩
    · rw [a1]; exact he t (sp.subset (cmpL_mem.1 h))
    · have hh : hi = lo := a2.trans a1.symm
      rw [h2]
      show (lo + (((i : Nat) : Int) : Rat) / (((m : Nat) : Int) : Rat) * (hi - lo) + (lo + ((((i : Nat) : Int) + 1 : Int) : Rat) / (((m : Nat) : Int) : Rat) * (hi - lo))) / 2 = lo
      rw [hh]
      grind
end Go.Proofs.YtcbadnbonoajjaaGreat

/-
  The reference's scales. Conditions: as each says.
-/
set_option maxHeartbeats 8000000
namespace Go.Proofs.YtcbadnbonoajjaaGreat
open Go.Vw
attribute [local irreducible] awp awpL awpR

theorem ref19_Rho (u : Rat) (hu : okQ 600000 u) : Ret Tryz.prog 71 [qD u] (· = qD (rho u)) := by
  have o1 := ref19_one
  have sg := ref03_SignQ u (hu.mono (by decide))
  have z : u.num.sign < 0 ↔ u < 0 := by rw [← num_lt0, ← Int.not_le, ← Int.not_le, Int.sign_nonneg_iff]
  have k1 : okQ 2 1 := okQ_one
  have l1 := ref03_LessQ u 1 (hu.mono (by decide)) (k1.mono (by decide))
  have s1 := ref03_SubQ 1 u (k1.mono (by decide)) (hu.mono (by decide))
  have ov : okQ 600002 (1 - u) := (k1.sub hu).mono (by decide)
  have m1 := ref03_MulQ (1 - u) (1 - u) (ov.mono (by decide)) (ov.mono (by decide))
  have m2 := ref03_MulQ (1 - u) ((1 - u) * (1 - u)) (ov.mono (by decide)) ((ov.mul ov).mono (by decide))
  have s2 := ref03_SubQ 1 ((1 - u) * ((1 - u) * (1 - u))) (k1.mono (by decide)) ((ov.mul (ov.mul ov)).mono (by decide))
  by_cases h1 : u < 0
  · have e : rho u = 0 := by unfold rho; rw [if_pos h1]
    have h2 := z.2 h1
    rw [e, show qD 0 = rD r0 from congrArg rD rq_zero]
    generalize u.num.sign = s at *
    clear z h1 e hu ov
    refine ret_of_awp tab Tryz.func71 rfl rfl (Nat.le_of_ble_eq_true rfl) (fun w0 F0 => ?_)
    repeat' (first | refine wG ?_ | refine wC sg ?_ | refine rg 3 2 ?_ | refine rgK 5 4 [3] ?_ | refine rg 6 5 ?_ | refine wS ?_ ?_ <;> intro _ | (show retPost _ _ _ _ _; first | refine finF true rfl rfl sc ?_ | refine finF false rfl rfl sc ?_ | refine finC false rfl rfl sc sc ?_ | refine finN rfl rfl sc ?_ | refine finL true rfl rfl sc rfl (LeR.cons rfl leL LeR.nil) ?_ | refine finA true rfl rfl sc ?_ | refine finA false rfl rfl sc ?_ | refine finE true rfl rfl sc ?_ | refine finE false rfl rfl sc ?_))
    exact leL
  · have h2 : ¬ u.num.sign < 0 := fun e => h1 (z.1 e)
    by_cases h3 : u < 1
    · have e : rho u = 1 - (1 - u) * ((1 - u) * (1 - u)) := by unfold rho; rw [if_neg h1, if_neg (by grind)]
      rw [e]
      rw [decide_eq_true h3] at l1
      generalize (1 - u) * ((1 - u) * (1 - u)) = w3 at *
      generalize (1 - u) * (1 - u) = w2 at *
      generalize 1 - u = w1 at *
      generalize 1 - w3 = w4 at *
      generalize u.num.sign = s at *
      clear z h1 e hu ov h3
      generalize (1 : Rat) = one at *
      refine ret_of_awp tab Tryz.func71 rfl rfl (Nat.le_of_ble_eq_true rfl) (fun w0 F0 => ?_)
      repeat' (first | refine wG ?_ | refine wC sg ?_ | refine wC o1 ?_ | refine wC l1 ?_ | refine wC s1 ?_ | refine wC m1 ?_ | refine wC m2 ?_ | refine wC s2 ?_ | refine rg 3 2 ?_ | refine rgK 5 4 [3] ?_ | refine rg 6 5 ?_ | refine wS ?_ ?_ <;> intro _ | refine finG ?_)
      rfl
    · have e : rho u = 1 := rho_one (by grind)
      rw [e]
      rw [decide_eq_false h3] at l1
      generalize u.num.sign = s at *
      clear z h1 e hu ov h3 s1 m1 m2 s2
      refine ret_of_awp tab Tryz.func71 rfl rfl (Nat.le_of_ble_eq_true rfl) (fun w0 F0 => ?_)
      repeat' (first | refine wG ?_ | refine wC sg ?_ | refine wC o1 ?_ | refine wC l1 ?_ | refine rg 3 2 ?_ | refine rgK 5 4 [3] ?_ | refine rg 6 5 ?_ | refine wS ?_ ?_ <;> intro _ | refine finG ?_)
      rfl
theorem ref19_mean (r : List Rat) (c s : Rat) (h0 : r ≠ []) (hl : r.length ≤ 6) (ho : ∀ x ∈ r, okQ 40 x) (oc : okQ 2 c) (os : okQ 39000 s) (hs : c * s ≠ 0) : Ret Tryz.prog 32 [qsD r, qD c, qD s] (· = qD (mnS r (c * s))) ∧ okQ 900000 (mnS r (c * s)) := by
  have og : ∀ i, okQ 40 (r.getD i 0) := fun i => ok_cf0 ho (by decide) i
  have hp : 0 < r.length := List.length_pos_iff.2 h0
  have m0 := ref03_MulQ c s (oc.mono (by decide)) (os.mono (by decide))
  have ok : okQ 39002 (c * s) := (oc.mul os).mono (by decide)
  generalize c * s = k at *
  have oR : ∀ x ∈ rhoL r k, okQ 118000 x := fun x hx => by
    unfold rhoL at hx
    obtain ⟨y, hy, rfl⟩ := List.mem_map.1 hx
    exact (rho_ok (((ho y hy).mul (ho y hy)).div ok hs) (by decide)).mono (by decide)
  have oT : ∀ i, okQ 708002 (sumQ ((rhoL r k).take i)) := fun i => (sumT_ok oR (n := 6) (by rw [rhoL_len]; exact hl) i).mono (by decide)
  obtain ⟨S, hS⟩ : ∃ S : Nat → Rat, ∀ i, S i = sumQ ((rhoL r k).take i) := ⟨_, fun _ => rfl⟩
  have s0 : S 0 = 0 := by rw [hS]; rfl
  have sS : ∀ i, i < r.length → S (i + 1) = S i + rho (r.getD i 0 * r.getD i 0 / k) := fun i hi => by
    rw [hS, hS, sumQ_take (by rw [rhoL_len]; exact hi)]
    congr 1
    unfold rhoL
    rw [List.getD_eq_getElem?_getD, List.getElem?_map, List.getElem?_eq_getElem hi, List.getD_eq_getElem?_getD, List.getElem?_eq_getElem hi]; rfl
  have oS : ∀ i, okQ 708002 (S i) := fun i => by rw [hS]; exact oT i
  have hne : ((r.length : Int) : Rat) ≠ 0 := fun h => by have := Rat.intCast_eq_zero_iff.1 h; omega
  have on : okQ 10 ((r.length : Int) : Rat) := ok_intW (by omega)
  have f2 := ref03_FromIntW (r.length : Int) (by omega) (by omega)
  have q1 := ref03_QuoQ (S r.length) ((r.length : Int) : Rat) ((oS _).mono (by decide)) (on.mono (by decide)) hne
  have e : S r.length / ((r.length : Int) : Rat) = mnS r k := by
    unfold mnS meanQ
    rw [hS, rhoL_len, List.take_of_length_le (by rw [rhoL_len]; exact Nat.le_refl _)]
  have oF : okQ 900000 (mnS r k) := by rw [← e]; exact ((oS _).div on hne).mono (by decide)
  refine ⟨?_, oF⟩
  rw [e] at q1
  generalize mnS r k = mn at *
  generalize ((r.length : Int) : Rat) = z2 at *
  clear hS e hne h0 ho oR oT oF on oc os
  refine ret_of_awp tab Tryz.func32 rfl rfl (Nat.le_of_ble_eq_true rfl) (fun w0 F0 => ?_)
  repeat' (first | refine wG ?_ | refine rg 5 15 ?_ | refine rg 6 4 ?_ | refine wS ?_ ?_ <;> intro _ | refine finG ?_)
  refine awp_rebox 7 (rC (rq 0)) rfl rfl (by rw [rq_zero]; exact leL) ?_
  refine awp_loop1 (fun (i : Nat) => ([(0, .d (qsD r)), (4, .ptr 4 0), (5, .ptr 5 0), (6, .ptr 6 0), (7, .ptr 7 0), (8, .d (.int .i64 i))], [(4, .box 30 ((rC (rq c)).map V.d)), (5, .box 30 ((rC (rq s)).map V.d)), (6, .box 30 zR3), (7, .box 30 ((rC (rq (S i))).map V.d))])) (fun i => i ≤ r.length) (fun i => r.length - i) 0 (by omega) ⟨rfl, rfl, rfl, rfl, rfl, rfl, rfl⟩ ⟨rfl, rfl, rfl, by rw [s0]; rfl, trivial⟩ (fun i hi => ?_)
  by_cases h3 : i < r.length
  · have st := sS i h3
    have o1 : okQ 80 (r.getD i 0 * r.getD i 0) := (og i).mul (og i)
    have m1 := ref03_MulQ (r.getD i 0) (r.getD i 0) ((og i).mono (by decide)) ((og i).mono (by decide))
    have q2 := ref03_QuoQ (r.getD i 0 * r.getD i 0) k (o1.mono (by decide)) (ok.mono (by decide)) hs
    have o2 : okQ 39082 (r.getD i 0 * r.getD i 0 / k) := o1.div ok hs
    have rh := ref19_Rho (r.getD i 0 * r.getD i 0 / k) (o2.mono (by decide))
    have o3 := rho_ok o2 (by decide)
    have a1 := ref03_AddQ (S i) (rho (r.getD i 0 * r.getD i 0 / k)) ((oS i).mono (by decide)) (o3.mono (by decide))
    rw [← st] at a1
    clear st o1 o2 o3 sS oS og f2 q1 s0
    generalize rho (r.getD i 0 * r.getD i 0 / k) = y3 at *
    generalize r.getD i 0 * r.getD i 0 / k = y2 at *
    generalize r.getD i 0 * r.getD i 0 = y1 at *
    repeat' (first | refine wG ?_ | refine wC m1 ?_ | refine wC m0 ?_ | refine wC q2 ?_ | refine wC rh ?_ | refine wC a1 ?_ | refine rg 5 15 ?_ | refine rg 6 4 ?_ | refine wS ?_ ?_ <;> intro _ | refine finG ?_)
    exact ⟨i + 1, by omega, by omega, ⟨rfl, rfl, rfl, rfl, rfl, iv (by omega), rfl⟩, rfl, rfl, rfl, rfl, trivial⟩
  · have e : i = r.length := by omega
    subst e
    clear sS oS og s0 m0
    repeat' (first | refine wG ?_ | refine wC f2 ?_ | refine wC q1 ?_ | refine rg 5 15 ?_ | refine rg 6 4 ?_ | refine wS ?_ ?_ <;> intro _ | refine finG ?_)
    rfl
theorem ref19_Null (r : List Rat) (b : Rat) (h0 : r ≠ []) (hl : r.length ≤ 1000) (ho : ∀ x ∈ r, okQ 1000 x) (ob : okQ 1000 b) : Ret Tryz.prog 30 [qsD r, qD b] (· = .bool (!decide (b < shrQ r))) := by
  have og : ∀ i, okQ 1000 (r.getD i 0) := fun i => ok_cf0 ho (by decide) i
  have hp : 0 < r.length := List.length_pos_iff.2 h0
  obtain ⟨N, hN⟩ : ∃ N : Nat → Nat, ∀ i, N i = nzc (r.take i) := ⟨_, fun _ => rfl⟩
  have n0 : N 0 = 0 := by rw [hN]; rfl
  have nS : ∀ i, i < r.length → N (i + 1) = N i + if (r.getD i 0).num.sign = 0 then 0 else 1 := fun i hi => by
    rw [hN, hN, List.take_add_one, List.getElem?_eq_getElem hi, List.getD_eq_getElem?_getD, List.getElem?_eq_getElem hi]
    unfold nzc
    rw [List.filter_append, List.length_append]
    congr 1
    show (List.filter _ [r[i]]).length = if (r[i]).num.sign = 0 then 0 else 1
    by_cases h : r[i] = 0
    · rw [if_pos (sign_zero_iff.2 h), List.filter_cons_of_neg (by simp [h])]; rfl
    · rw [if_neg (fun e => h (sign_zero_iff.1 e)), List.filter_cons_of_pos (by simp [h])]; rfl
  have nL : ∀ i, N i ≤ 1000 := fun i => by
    rw [hN]
    unfold nzc
    refine Nat.le_trans (List.length_filter_le _ _) ?_
    rw [List.length_take]; omega
  have nn := nL r.length
  have fr := ref03_FractionQ (N r.length : Int) (r.length : Int) (by omega) (by omega) (by omega) (by omega)
  have e : Rat.divInt (N r.length : Int) (r.length : Int) = shrQ r := by rw [Rat.divInt_eq_div]; unfold shrQ; rw [hN, List.take_of_length_le (Nat.le_refl _)]
  rw [e] at fr
  have os : okQ 10 (shrQ r) := by rw [← e]; exact ok_fracW (by omega) (by omega) (by omega)
  have ls := ref03_LessQ b (shrQ r) (ob.mono (by decide)) (os.mono (by decide))
  generalize decide (b < shrQ r) = tf at *
  generalize shrQ r = sh at *
  clear hN e h0 ho os ob
  refine ret_of_awp tab Tryz.func30 rfl rfl (Nat.le_of_ble_eq_true rfl) (fun w0 F0 => ?_)
  repeat' (first | refine wG ?_ | refine rg 7 5 ?_ | refine wS ?_ ?_ <;> intro _ | refine finG ?_)
  refine awp_loop1 (fun (i : Nat) => ([(0, .d (qsD r)), (3, .ptr 3 0), (4, .d (.bool false)), (5, .d (.int .i64 (N i))), (6, .d (.int .i64 i))], [(3, .box 30 ((rC (rq b)).map V.d))])) (fun i => i ≤ r.length) (fun i => r.length - i) 0 (by omega) ⟨rfl, rfl, rfl, by rw [n0]; rfl, rfl, rfl⟩ ⟨rfl, trivial⟩ (fun i hi => ?_)
  have nl := nL i
  by_cases h3 : i < r.length
  · have sg := ref03_SignQ (r.getD i 0) ((og i).mono (by decide))
    have st := nS i h3
    clear nS nL og fr ls
    generalize (r.getD i 0).num.sign = s at *
    by_cases hs : s = 0
    · rw [if_pos hs, Nat.add_zero] at st
      subst hs
      repeat' (first | refine wG ?_ | refine wC sg ?_ | refine rg 7 5 ?_ | refine wS ?_ ?_ <;> intro _ | refine finG ?_)
      exact ⟨i + 1, by omega, by omega, ⟨rfl, rfl, rfl, iv (by omega), iv (by omega), rfl⟩, rfl, trivial⟩
    · rw [if_neg hs] at st
      repeat' (first | refine wG ?_ | refine wC sg ?_ | refine rg 7 5 ?_ | refine wS ?_ ?_ <;> intro _ | refine finG ?_)
      exact ⟨i + 1, by omega, by omega, ⟨rfl, rfl, rfl, iv (by omega), iv (by omega), rfl⟩, rfl, trivial⟩
  · have e : i = r.length := by omega
    subst e
    clear nS nL og
    repeat' (first | refine wG ?_ | refine wC fr ?_ | refine wC ls ?_ | refine rg 7 5 ?_ | refine wS ?_ ?_ <;> intro _ | refine finG ?_)
    all_goals rfl
theorem ref19_AtLeast (r : List Rat) (c b v : Rat) (h0 : r ≠ []) (hl : r.length ≤ 6) (ho : ∀ x ∈ r, okQ 40 x) (oc : okQ 2 c) (hc : 0 < c) (ob : okQ 10 b) (ov : okQ 39000 v) (h : 0 < v → b < mnS r (c * v) ∧ b < shrQ r) : Ret Tryz.prog 13 [qsD r, qD c, qD b, qD v] (· = .bool true) := by
  have sg := ref03_SignQ v (ov.mono (by decide))
  have z : v.num.sign ≤ 0 ↔ v ≤ 0 := by rw [← Int.not_lt, Int.sign_pos_iff, num_gt0, Rat.not_lt]
  by_cases h1 : v ≤ 0
  · have h2 := z.2 h1
    generalize v.num.sign = s at *
    clear z h1 h ho oc hc ob ov
    refine ret_of_awp tab Tryz.func13 rfl rfl (Nat.le_of_ble_eq_true rfl) (fun w0 F0 => ?_)
    repeat' (first | refine wG ?_ | refine wC sg ?_ | refine rg 3 10 ?_ | refine wS ?_ ?_ <;> intro _ | refine finG ?_)
    rfl
  · have h2 : ¬ v.num.sign ≤ 0 := fun e => h1 (z.1 e)
    have vp : 0 < v := Rat.not_le.1 h1
    obtain ⟨g1, g2⟩ := h vp
    have nu := ref19_Null r b h0 (by omega) (fun x hx => (ho x hx).mono (by decide)) (ob.mono (by decide))
    rw [decide_eq_true g2] at nu
    have cv : 0 < c * v := Rat.mul_pos hc vp
    obtain ⟨m1, om⟩ := ref19_mean r c v h0 hl ho oc ov (by grind)
    have ls : Ret Tryz.prog 31 [qD (mnS r (c * v)), qD b] (· = .bool false) := by
      have := ref03_LessQ (mnS r (c * v)) b (om.mono (by decide)) (ob.mono (by decide))
      rw [decide_eq_false (by grind)] at this
      exact this
    generalize mnS r (c * v) = mn at *
    generalize v.num.sign = s at *
    clear z h1 h ho oc hc ob ov om
    refine ret_of_awp tab Tryz.func13 rfl rfl (Nat.le_of_ble_eq_true rfl) (fun w0 F0 => ?_)
    repeat' (first | refine wG ?_ | refine wC sg ?_ | refine wC nu ?_ | refine wC m1 ?_ | refine wC ls ?_ | refine rg 3 10 ?_ | refine wS ?_ ?_ <;> intro _ | refine finG ?_)
    rfl
end Go.Proofs.YtcbadnbonoajjaaGreat

set_option maxHeartbeats 8000000
namespace Go.Proofs.YtcbadnbonoajjaaGreat
open Go.Vw
attribute [local irreducible] awp awpL awpR

theorem made_ModW (k n : Int) (hk : -9223372036854775808 ≤ k) (hk' : k < 9223372036854775808) (h : 0 < n) (h' : n < 10000000) : Ret Tryz.prog 8 [.int .i64 k, .int .i64 n] (· = .int .i64 (k % n)) := by
  obtain ⟨t1, t2, t3⟩ := tmodFact k n h
  rw [t3]
  refine ret_of_awp tab Tryz.func8 rfl rfl (Nat.le_of_ble_eq_true rfl) (fun w0 F0 => ?_)
  repeat' (first | refine wG ?_ | refine wS ?_ ?_ <;> intro _ | refine finG ?_)
  · rename_i hc; rw [if_pos hc]
  · rename_i hc; rw [if_neg hc]
def numQ (v : Int) : Rat := Rat.divInt (v % 61 - 30) (1 + v.tdiv 61 % 4)
theorem ok_numQ (v : Int) : okQ 10 (numQ v) := ok_fracW (by omega) (by omega) (by omega)
theorem made_Number (v : Int) (h1 : -9223372036854775808 ≤ v) (h2 : v < 9223372036854775808) : Ret Tryz.prog 11 [.int .i64 v] (· = qD (numQ v)) := by
  have hb : -9223372036854775808 ≤ v.tdiv 61 ∧ v.tdiv 61 < 9223372036854775808 := by
    rcases Int.le_total 0 v with h | h
    · rw [Int.tdiv_eq_ediv_of_nonneg h]; omega
    · obtain ⟨m, rfl⟩ : ∃ m : Int, v = -m := ⟨-v, by omega⟩
      rw [Int.neg_tdiv, Int.tdiv_eq_ediv_of_nonneg (show 0 ≤ m by omega)]; omega
  have m1 := made_ModW v 61 h1 h2 (by decide) (by decide)
  have m2 := made_ModW (v.tdiv 61) 4 hb.1 hb.2 (by decide) (by decide)
  have hw : IntKind.i64.wrap (v.tdiv 61) = v.tdiv 61 := Go.IntWalk.i64_in _ (by omega)
  have f := ref03_FractionQ (v % 61 - 30) (1 + v.tdiv 61 % 4) (by omega) (by omega) (by omega) (by omega)
  unfold numQ
  have r1 := Int.emod_nonneg v (show (61 : Int) ≠ 0 by decide)
  have r2 := Int.emod_lt_of_pos v (show (0 : Int) < 61 by decide)
  have r3 := Int.emod_nonneg (v.tdiv 61) (show (4 : Int) ≠ 0 by decide)
  have r4 := Int.emod_lt_of_pos (v.tdiv 61) (show (0 : Int) < 4 by decide)
  generalize v.tdiv 61 % 4 = z at *
  generalize v % 61 = y at *
  rw [← hw] at m2
  clear hw hb
  refine ret_of_awp tab Tryz.func11 rfl rfl (Nat.le_of_ble_eq_true rfl) (fun w0 F0 => ?_)
  repeat' (first | refine wG ?_ | refine wC m1 ?_ | refine wC m2 ?_ | refine wC f ?_ | refine wS ?_ ?_ <;> intro _ | refine finG ?_)
  all_goals rfl
end Go.Proofs.YtcbadnbonoajjaaGreat

/-
  The statements about location: helpers and the example. Conditions: as each says.
-/
set_option maxHeartbeats 8000000
namespace Go.Proofs.YtcbadnbonoajjaaGreat
open Go.Vw
attribute [local irreducible] awp awpL awpR

def smallR (r : R3) : Bool := decide (r.2.1.length ≤ 2) && decide (r.2.2.length ≤ 2)
theorem smallR_ok {r : R3} (h : RawR r) (hl : smallR r = true) : RatOk r 9 := h.light (by
  unfold smallR at hl
  unfold lightR
  rw [Bool.and_eq_true, decide_eq_true_eq, decide_eq_true_eq] at hl ⊢
  omega)
theorem find_predR {α : Type} (z : α) (l : List α) (P : α → Bool) : (l.any P = true ∧ ∃ j, j < l.length ∧ P (l.getD j z) = true ∧ ∀ i, i < j → P (l.getD i z) = false) ∨ (l.any P = false ∧ ∀ i, i < l.length → P (l.getD i z) = false) := by
  induction l with
  | nil => exact .inr ⟨rfl, fun i h => absurd h (Nat.not_lt_zero i)⟩
  | cons a l ih =>
    cases ha : P a with
    | true => exact .inl ⟨by rw [List.any_cons, ha]; rfl, 0, by simp, ha, fun i h => absurd h (Nat.not_lt_zero i)⟩
    | false =>
      rcases ih with ⟨h1, j, h2, h3, h4⟩ | ⟨h1, h2⟩
      · exact .inl ⟨by rw [List.any_cons, ha, h1]; rfl, j + 1, by simp; exact h2, h3, fun i hi => by
          cases i with
          | zero => exact ha
          | succ i => exact h4 i (by omega)⟩
      · exact .inr ⟨by rw [List.any_cons, ha, h1]; rfl, fun i hi => by
          cases i with
          | zero => exact ha
          | succ i => exact h2 i (by simp at hi; omega)⟩
theorem law20_small (r : R3) (h : RawR r) : Ret Tryz.prog 18 [rD r] (· = .bool (smallR r)) := by
  have h1 := h.lm
  have h2 := h.ld
  unfold smallR
  by_cases c1 : r.2.1.length ≤ 2
  · rw [decide_eq_true c1, Bool.true_and]
    clear h
    refine ret_of_awp tab Tryz.func18 rfl rfl (Nat.le_of_ble_eq_true rfl) (fun w0 F0 => ?_)
    repeat' (first | refine wG ?_ | refine wS ?_ ?_ <;> intro _ | refine finG ?_)
    all_goals (refine congrArg D.bool (decide_eq_decide.2 ?_); omega)
  · rw [decide_eq_false c1, Bool.false_and]
    clear h
    refine ret_of_awp tab Tryz.func18 rfl rfl (Nat.le_of_ble_eq_true rfl) (fun w0 F0 => ?_)
    repeat' (first | refine wG ?_ | refine wS ?_ ?_ <;> intro _ | refine finG ?_)
    all_goals rfl
theorem law20_light (X : List R3) (h : ∀ r ∈ X, RawR r) (hl : X.length ≤ 9223372036854775807) : Ret Tryz.prog 17 [rsD X] (· = .bool (decide (X.length ≤ 6) && X.all smallR)) := by
  by_cases c : X.length ≤ 6
  · rw [decide_eq_true c, Bool.true_and]
    have sm : ∀ i, i < X.length → Ret Tryz.prog 18 [rD (X.getD i r0)] (· = .bool (smallR (X.getD i r0))) := fun i hi => law20_small _ (h _ (by
      rw [List.getD_eq_getElem?_getD, List.getElem?_eq_getElem hi]; exact List.getElem_mem hi))
    clear h
    rcases find_predR r0 X (fun r => !smallR r) with ⟨e0, j, hj, p1, p2⟩ | ⟨e0, p2⟩
    · have ea : X.all smallR = false := by rw [List.all_eq_not_any_not, e0]; rfl
      rw [ea]
      clear e0 ea
      refine ret_of_awp tab Tryz.func17 rfl rfl (Nat.le_of_ble_eq_true rfl) (fun w0 F0 => ?_)
      repeat' (first | refine wG ?_ | refine wS ?_ ?_ <;> intro _ | refine finG ?_)
      refine awp_loop1 (fun (i : Nat) => ([(0, .d (rsD X)), (3, .d (.int .i64 i))], [])) (fun i => i ≤ j) (fun i => X.length - i) 0 (by omega) ⟨rfl, rfl, rfl⟩ trivial (fun i hi => ?_)
      have s := sm i (by omega)
      by_cases h3 : i < j
      · have q : smallR (X.getD i r0) = true := by have := p2 i h3; simpa using this
        rw [q] at s
        clear p1 p2 sm q
        repeat' (first | refine wG ?_ | refine wC s ?_ | refine wS ?_ ?_ <;> intro _ | refine finG ?_)
        exact ⟨i + 1, by omega, by omega, ⟨rfl, iv (by omega), rfl⟩, trivial⟩
      · have e : i = j := by omega
        subst e
        have q : smallR (X.getD i r0) = false := by simpa using p1
        rw [q] at s
        clear p1 p2 sm q
        repeat' (first | refine wG ?_ | refine wC s ?_ | refine wS ?_ ?_ <;> intro _ | refine finG ?_)
        rfl
    · have ea : X.all smallR = true := by rw [List.all_eq_not_any_not, e0]; rfl
      rw [ea]
      clear e0 ea
      refine ret_of_awp tab Tryz.func17 rfl rfl (Nat.le_of_ble_eq_true rfl) (fun w0 F0 => ?_)
      repeat' (first | refine wG ?_ | refine wS ?_ ?_ <;> intro _ | refine finG ?_)
      refine awp_loop1 (fun (i : Nat) => ([(0, .d (rsD X)), (3, .d (.int .i64 i))], [])) (fun i => i ≤ X.length) (fun i => X.length - i) 0 (by omega) ⟨rfl, rfl, rfl⟩ trivial (fun i hi => ?_)
      by_cases h3 : i < X.length
      · have s := sm i h3
        have q : smallR (X.getD i r0) = true := by have := p2 i h3; simpa using this
        rw [q] at s
        clear p2 sm q
        repeat' (first | refine wG ?_ | refine wC s ?_ | refine wS ?_ ?_ <;> intro _ | refine finG ?_)
        exact ⟨i + 1, by omega, by omega, ⟨rfl, iv (by omega), rfl⟩, trivial⟩
      · have e : i = X.length := by omega
        subst e
        clear p2 sm
        repeat' (first | refine wG ?_ | refine wS ?_ ?_ <;> intro _ | refine finG ?_)
        rfl
  · rw [decide_eq_false c, Bool.false_and]
    clear h
    refine ret_of_awp tab Tryz.func17 rfl rfl (Nat.le_of_ble_eq_true rfl) (fun w0 F0 => ?_)
    repeat' (first | refine wG ?_ | refine wS ?_ ?_ <;> intro _ | refine finG ?_)
    rfl
theorem made_NumbersB (l : List Int) (m : Nat) (hl : l.length ≤ 9223372036854775807) (hx : I64 l) (hm : m ≤ 1000) : RetB Tryz.prog 5 [.d (i64s l), .d (.int .i64 m)] (lookB []) (qO ((l.take m).map numQ).length) (lookB [(500, qB ((l.take m).map numQ))]) := by
  refine retB_of_awp tab [] Tryz.func5 rfl rfl rfl (Nat.le_of_ble_eq_true rfl) rfl trivial (fun w0 F0 A io0 => ?_)
  repeat' (first | refine wG ?_ | refine wS ?_ ?_ <;> intro _ | refine wB ?_ ?_)
  refine awp_adopt 5 500 30 3 qC 0 rfl ?_
  refine awp_loop1 (fun (i : Nat) => ([(0, .d (i64s l)), (1, .d (.int .i64 m)), (5, .own 500 0 ((l.take i).map numQ).length 30 3), (6, .d (.int .i64 i))], [(500, .data 30 3 qC 0 ((l.take i).map numQ))])) (fun i => i ≤ l.length ∧ i ≤ m) (fun i => m - i) 0 ⟨by omega, by omega⟩ ⟨rfl, rfl, rfl, rfl, rfl⟩ ⟨rfl, trivial⟩ (fun i hi => ?_)
  obtain ⟨i1, i2⟩ := hi
  have hlen : ((l.take i).map numQ).length = i := by simp; omega
  by_cases h3 : i < l.length ∧ i < m
  · obtain ⟨h4, h5⟩ := h3
    have hg := hx.getD i
    have hn := made_Number (l.getD i 0) hg.1 hg.2
    have e : (l.take i).map numQ ++ [numQ (l.getD i 0)] = (l.take (i + 1)).map numQ := by
      rw [List.take_add_one, List.map_append, List.getElem?_eq_getElem h4, List.getD_eq_getElem?_getD, List.getElem?_eq_getElem h4]
      rfl
    repeat' (first | refine wG ?_ | refine wC hn ?_ | refine wS ?_ ?_ <;> intro _ | refine wB ?_ ?_)
    exact ⟨i + 1, ⟨by omega, by omega⟩, by omega, ⟨rfl, rfl, by rw [← e]; rfl, iv (by omega), rfl⟩, by rw [← e]; rfl, trivial⟩
  · have e : l.take i = l.take m := by
      by_cases h4 : i < l.length
      · rw [show i = m by omega]
      · rw [List.take_of_length_le (by omega), List.take_of_length_le (by omega)]
    rw [e] at hlen ⊢
    repeat' (first | refine wG ?_ | refine wS ?_ ?_ <;> intro _ | refine wB ?_ ?_)
    all_goals first | exact leVT | exact ⟨rfl, trivial⟩
theorem ref20_Residuals (x : List Rat) (t : Rat) (hl : x.length ≤ 100) (ho : ∀ v ∈ x, okQ 1000 v) (ot : okQ 1000 t) : Ret Tryz.prog 14 [qsD x, qD t] (· = qsD (x.map fun v => v - t)) := by
  have og : ∀ i, okQ 1000 (x.getD i 0) := fun i => ok_cf0 ho (by decide) i
  obtain ⟨L, hL⟩ : ∃ L : Nat → List Rat, ∀ i, L i = (x.take i).map fun v => v - t := ⟨_, fun _ => rfl⟩
  have l0 : L 0 = [] := by rw [hL]; rfl
  have lS : ∀ i, i < x.length → L (i + 1) = L i ++ [x.getD i 0 - t] := fun i hi => by
    rw [hL, hL, List.take_add_one, List.getElem?_eq_getElem hi, List.getD_eq_getElem?_getD, List.getElem?_eq_getElem hi, List.map_append]; rfl
  have lL : ∀ i, (L i).length ≤ 100 := fun i => by rw [hL, List.length_map, List.length_take]; omega
  rw [show (x.map fun v => v - t) = L x.length by rw [hL, List.take_of_length_le (Nat.le_refl _)]]
  clear hL ho
  refine ret_of_awp tab Tryz.func14 rfl rfl (Nat.le_of_ble_eq_true rfl) (fun w0 F0 => ?_)
  repeat' (first | refine wG ?_ | refine rg 5 8 ?_ | refine wS ?_ ?_ <;> intro _ | refine finG ?_)
  refine awp_adopt 5 500 30 3 qC 0 rfl ?_
  refine awp_loop1 (fun (i : Nat) => ([(0, .d (qsD x)), (3, .ptr 3 0), (5, qO (L i).length), (6, .d (.int .i64 i))], [(3, .box 30 ((rC (rq t)).map V.d)), (500, qB (L i))])) (fun i => i ≤ x.length) (fun i => x.length - i) 0 (by omega) ⟨rfl, rfl, ownEq (by rw [l0]; rfl), rfl, rfl⟩ ⟨rfl, blkEq (by rw [l0]), trivial⟩ (fun i hi => ?_)
  have hel := lL i
  by_cases h3 : i < x.length
  · have s1 := ref03_SubQ (x.getD i 0) t ((og i).mono (by decide)) (ot.mono (by decide))
    have st := lS i h3
    clear og lS lL l0
    generalize x.getD i 0 - t = y1 at *
    repeat' (first | refine wG ?_ | refine wC s1 ?_ | refine rg 5 8 ?_ | refine wS ?_ ?_ <;> intro _ | refine finG ?_)
    exact ⟨i + 1, by omega, by omega, ⟨rfl, rfl, ownEq (by rw [st]), iv (by omega), rfl⟩, rfl, blkEq (by rw [st]), trivial⟩
  · have e : i = x.length := by omega
    subst e
    repeat' (first | refine wG ?_ | refine rg 5 8 ?_ | refine wS ?_ ?_ <;> intro _ | refine finG ?_)
    all_goals rfl
theorem half_eq : Rat.divInt 1 2 = 1 / 2 := by decide +kernel
theorem scl2 : Scl ((2 : Int) : Rat) := ⟨by decide +kernel, by decide +kernel, okQ_two2⟩
theorem law20_awake : Ret Tryz.prog 6 [] (· = .bool true) := by
  have f9 := ref03_FromIntW 9 (by decide) (by decide)
  have f2 := ref03_FromIntW 2 (by decide) (by decide)
  have fr := ref03_FractionQ 1 2 (by decide) (by decide) (by decide) (by decide)
  rw [half_eq] at fr
  have k9 : okQ 10 ((9 : Int) : Rat) := ok_intW (by decide)
  obtain ⟨coef, v, lw, m, F, c1, ov, ol, z1, z2, _, _⟩ := fit_gen [r0, r0, r0, rq ((9 : Int) : Rat)] _ ((2 : Int) : Rat) 3 1 rfl (fun r hr => by
      simp only [List.mem_cons, List.not_mem_nil, or_false] at hr
      have o0 : RatOk r0 40 := ⟨(by intro x hx; cases hx), (by intro x hx; cases hx), (by decide), (by decide)⟩
      rcases hr with h | h | h | h <;> rw [h]
      · exact o0
      · exact o0
      · exact o0
      · exact ok_rq (k9.mono (by decide))) (by decide) (by decide) (fun v hv => by
      rw [List.map_cons, List.map_cons, List.map_cons, List.map_cons, List.map_nil, rv_rq] at hv
      have e0 : rv r0 = 0 := by decide +kernel
      rw [e0] at hv
      simp only [List.mem_cons, List.not_mem_nil, or_false] at hv
      have g0 : GN 12 360 0 := GN.zero _ _ (by decide)
      rcases hv with h | h | h | h <;> rw [h]
      · exact g0
      · exact g0
      · exact g0
      · exact ⟨108, by decide, by decide, by decide +kernel⟩) scl2 (by decide) (by decide) (by decide)
  have hm := z2 rfl
  have hl := z1 hm
  subst hm hl
  have sg := ref03_SignQ 0 (okQ_zero (by decide))
  rw [show (0 : Rat).num.sign = 0 from rfl] at sg
  clear z1 z2 ov ol k9
  generalize ((9 : Int) : Rat) = q9 at *
  generalize ((2 : Int) : Rat) = q2 at *
  generalize (1 / 2 : Rat) = qh at *
  refine ret_of_awp tab Tryz.func6 rfl rfl (Nat.le_of_ble_eq_true rfl) (fun w0 F0 => ?_)
  repeat' (first | refine wG ?_ | refine wC f9 ?_ | refine wC f2 ?_ | refine wC fr ?_ | refine wC F ?_ | refine wC sg ?_ | refine wS ?_ ?_ <;> intro _ | refine finG ?_)
  all_goals first | rfl | (refine congrArg D.bool ?_; simp [c1])
end Go.Proofs.YtcbadnbonoajjaaGreat

/-
  The two statements about location. Conditions: none beyond what lists can be.
-/
set_option maxHeartbeats 8000000
namespace Go.Proofs.YtcbadnbonoajjaaGreat
open Go.Vw
attribute [local irreducible] awp awpL awpR

theorem law20_Refuses (X : List R3) (C B D' : R3) (bits parts : Int) (hX : ∀ r ∈ X, RawR r) (hC : RawR C) (hB : RawR B) (hD : RawR D') (b1 : -9223372036854775808 ≤ bits) (b2 : bits < 9223372036854775808) (p1 : -9223372036854775808 ≤ parts) (p2 : parts < 9223372036854775808) (hl : X.length ≤ 9223372036854775807) : Ret Tryz.prog 4 [rsD X, rD C, rD B, rD D', .int .i64 bits, .int .i64 parts] (· = .bool true) := by
  have aw := law20_awake
  have li := law20_light X hX hl
  have s1 := law20_small C hC
  have s2 := law20_small B hB
  have s3 := law20_small D' hD
  cases hL : (decide (X.length ≤ 6) && X.all smallR) with
  | false =>
    rw [hL] at li
    clear s1 s2 s3 hX hC hB hD
    refine ret_of_awp tab Tryz.func4 rfl rfl (Nat.le_of_ble_eq_true rfl) (fun w0 F0 => ?_)
    repeat' (first | refine wG ?_ | refine wC li ?_ | refine wC aw ?_ | refine wS ?_ ?_ <;> intro _ | refine finG ?_)
    all_goals rfl
  | true =>
    rw [hL] at li
    cases h1 : smallR C with
    | false =>
      rw [h1] at s1
      clear s2 s3 hX hC hB hD
      refine ret_of_awp tab Tryz.func4 rfl rfl (Nat.le_of_ble_eq_true rfl) (fun w0 F0 => ?_)
      repeat' (first | refine wG ?_ | refine wC li ?_ | refine wC s1 ?_ | refine wC aw ?_ | refine wS ?_ ?_ <;> intro _ | refine finG ?_)
      all_goals rfl
    | true =>
      rw [h1] at s1
      cases h2 : smallR B with
      | false =>
        rw [h2] at s2
        clear s3 hX hC hB hD
        refine ret_of_awp tab Tryz.func4 rfl rfl (Nat.le_of_ble_eq_true rfl) (fun w0 F0 => ?_)
        repeat' (first | refine wG ?_ | refine wC li ?_ | refine wC s1 ?_ | refine wC s2 ?_ | refine wC aw ?_ | refine wS ?_ ?_ <;> intro _ | refine finG ?_)
        all_goals rfl
      | true =>
        rw [h2] at s2
        cases h3 : smallR D' with
        | false =>
          rw [h3] at s3
          clear hX hC hB hD
          refine ret_of_awp tab Tryz.func4 rfl rfl (Nat.le_of_ble_eq_true rfl) (fun w0 F0 => ?_)
          repeat' (first | refine wG ?_ | refine wC li ?_ | refine wC s1 ?_ | refine wC s2 ?_ | refine wC s3 ?_ | refine wC aw ?_ | refine wS ?_ ?_ <;> intro _ | refine finG ?_)
          all_goals rfl
        | true =>
          rw [h3] at s3
          have oC : RatOk C 1000 := (smallR_ok hC h1).up (by decide)
          have oB : RatOk B 1000 := (smallR_ok hB h2).up (by decide)
          have oD : RatOk D' 1000 := (smallR_ok hD h3).up (by decide)
          have er := ref20_Error X C B D' bits parts hl oC oB oD b1 b2 p1 p2
          by_cases he : locErr X.length (numOk (rv C) (rv B) (rv D') bits) parts = 0
          · rw [he] at er
            clear hX hC hB hD oC oB oD he hL h1 h2 h3
            refine ret_of_awp tab Tryz.func4 rfl rfl (Nat.le_of_ble_eq_true rfl) (fun w0 F0 => ?_)
            repeat' (first | refine wG ?_ | refine wC li ?_ | refine wC s1 ?_ | refine wC s2 ?_ | refine wC s3 ?_ | refine wC aw ?_ | refine wC er ?_ | refine wS ?_ ?_ <;> intro _ | refine finG ?_)
            all_goals rfl
          · have ft := slocation_FitTau X C B D' bits parts (fit_tauE X C B D' bits parts hl oC oB oD b1 b2 p1 p2 he)
            generalize locErr X.length (numOk (rv C) (rv B) (rv D') bits) parts = e at *
            clear hX hC hB hD oC oB oD hL h1 h2 h3
            refine ret_of_awp tab Tryz.func4 rfl rfl (Nat.le_of_ble_eq_true rfl) (fun w0 F0 => ?_)
            repeat' (first | refine wG ?_ | refine wC li ?_ | refine wC s1 ?_ | refine wC s2 ?_ | refine wC s3 ?_ | refine wC aw ?_ | refine wC er ?_ | refine wC ft ?_ | refine wS ?_ ?_ <;> intro _ | refine finG ?_)
            all_goals first | rfl | (refine congrArg D.bool ?_; simp) | (exfalso; omega)
theorem numQ_GN (v : Int) : GN 12 360 (numQ v) := by
  unfold numQ
  exact GN.numQ (by omega) (by omega) (by omega) (by omega)

theorem law20_Bounds (raw : List Int) (c parts t : Int) (eq : Bool) (hx : I64 raw) (hl : raw.length ≤ 9223372036854775807) (c1 : -9223372036854775808 ≤ c) (c2 : c < 9223372036854775808) (p1 : -9223372036854775808 ≤ parts) (p2 : parts < 9223372036854775808) (t1 : -9223372036854775808 ≤ t) (t2 : t < 9223372036854775808) : Ret Tryz.prog 3 [i64s raw, .int .i64 c, .int .i64 parts, .int .i64 t, .bool eq] (· = .bool true) := by
  have aw := law20_awake
  have nb := made_NumbersB raw 6 hl hx (by decide)
  obtain ⟨L, hL⟩ : ∃ L, (raw.take 6).map numQ = L := ⟨_, rfl⟩
  have gL : ∀ v ∈ L, GN 12 360 v := fun v hv => by
    rw [← hL] at hv
    obtain ⟨w, _, rfl⟩ := List.mem_map.1 hv
    exact numQ_GN w
  have oL : ∀ v ∈ L, okQ 10 v := fun v hv => by
    rw [← hL] at hv
    obtain ⟨w, _, rfl⟩ := List.mem_map.1 hv
    exact ok_numQ w
  have lL : L.length ≤ 6 := by rw [← hL, List.length_map, List.length_take]; omega
  rw [hL] at nb
  clear hL
  by_cases h0 : L.length = 0
  · clear gL oL
    refine ret_of_awp tab Tryz.func3 rfl rfl (Nat.le_of_ble_eq_true rfl) (fun w0 F0 => ?_)
    repeat' (first | refine wG ?_ | refine wD [500] nb ?_ | refine wC aw ?_ | refine rgK 9 12 [15] ?_ | refine rg 11 22 ?_ | refine wS ?_ ?_ <;> intro _ | refine finG ?_)
    all_goals first | rfl | (exfalso; omega)
  · have Lg : L.getD 0 0 ∈ L := by rw [List.getD_eq_getElem?_getD, List.getElem?_eq_getElem (by omega)]; exact List.getElem_mem _
    obtain ⟨x, hxe⟩ : ∃ x : List Rat, x = if eq = true then List.replicate L.length (L.getD 0 0) else L := ⟨_, rfl⟩
    have lx : x.length = L.length := by rw [hxe]; split; exact List.length_replicate; rfl
    have mx : ∀ v ∈ x, v ∈ L := fun v hv => by
      rw [hxe] at hv
      split at hv
      · rw [List.eq_of_mem_replicate hv]; exact Lg
      · exact hv
    have gx : ∀ v ∈ x, GN 12 360 v := fun v hv => gL v (mx v hv)
    have ox : ∀ v ∈ x, okQ 10 v := fun v hv => oL v (mx v hv)
    have md1 := made_ModW c 9 c1 c2 (by decide) (by decide)
    have md2 := made_ModW parts 8 p1 p2 (by decide) (by decide)
    obtain ⟨k, hk⟩ : ∃ k, c % 9 = k := ⟨_, rfl⟩
    have k0 : 0 ≤ k ∧ k ≤ 8 := by omega
    obtain ⟨n, hn⟩ : ∃ n : Nat, parts % 8 = (n : Int) - 1 := ⟨(parts % 8 + 1).toNat, by omega⟩
    have n1 : 1 ≤ n ∧ n ≤ 8 := by omega
    rw [hk] at md1
    rw [hn] at md2
    have fr1 := ref03_FractionQ (1 + k) 2 (by omega) (by omega) (by decide) (by decide)
    have fr2 := ref03_FractionQ 1 2 (by decide) (by decide) (by decide) (by decide)
    rw [half_eq] at fr2
    obtain ⟨cq, hcq⟩ : ∃ cq, Rat.divInt (1 + k) 2 = cq := ⟨_, rfl⟩
    rw [hcq] at fr1
    have sc : Scl cq := by
      have a1 : (0 : Rat) ≤ (k : Rat) := by exact_mod_cast k0.1
      have a2 : (k : Rat) ≤ ((8 : Int) : Rat) := Rat.intCast_le_intCast.2 k0.2
      have a3 : ((8 : Int) : Rat) = 8 := rfl
      have e : cq = (1 + (k : Rat)) / 2 := by rw [← hcq, Rat.divInt_eq_div, Rat.intCast_add]; rfl
      rw [a3] at a2
      refine ⟨by rw [e]; grind, by rw [e]; grind, ?_⟩
      rw [← hcq]
      refine okQ_divInt (by decide) ?_ ?_
      · rw [Nat.lt_succ_iff]
        exact length_limbs_le (show (1 + k).natAbs < B ^ 1 by rw [Nat.pow_one, B_val]; omega)
      · rw [Nat.lt_succ_iff]
        exact length_limbs_le (show (2 : Int).natAbs < B ^ 1 by decide)
    obtain ⟨coef, v, lw, m, F, q1, ov, ol, z1, z2, fa, es⟩ := fit_gen (x.map rq) x cq 8 n (by rw [List.map_map]; exact (List.map_congr_left fun a _ => rv_rq a).trans (List.map_id' x)) (fun r hr => by
      obtain ⟨y, hy, rfl⟩ := List.mem_map.1 hr
      exact ok_rq ((ox y hy).mono (by decide))) (by rw [List.length_map]; omega) (by rw [List.length_map]; omega) gx sc (by decide) n1.1 n1.2
    have F' : Ret Tryz.prog 9 [qsD x, qD cq, qD (1 / 2), .int .i64 8, .int .i64 n] (· = .tup [sfD coef v lw m, .int .i64 0]) := F.args (LeT.cons (leQRl x) (LeT.refl _))
    have nt := made_Number t t1 t2
    have ont := ok_numQ t
    have bt := (numQ_GN t).bound
    generalize numQ t = tq at *
    have f100 := ref03_FromIntW 100 (by decide) (by decide)
    have c100 : ((100 : Int) : Rat) = 100 := rfl
    have o100 : okQ 10 ((100 : Int) : Rat) := ok_intW (by decide)
    have ad := ref03_AddQ tq ((100 : Int) : Rat) (ont.mono (by decide)) (o100.mono (by decide))
    have ofr := ont.add o100
    have ng := ref03_NegQ (tq + ((100 : Int) : Rat)) (ofr.mono (by decide))
    obtain ⟨far, hfar⟩ : ∃ far, tq + ((100 : Int) : Rat) = far := ⟨_, rfl⟩
    rw [hfar] at ad ng ofr
    have x0 : x ≠ [] := fun e => by rw [e] at lx; simp at lx; omega
    have ob : okQ 10 (1 / 2) := (okQ_one.div okQ_two2 (by decide)).mono (by decide)
    have up : ∀ w ∈ x, w ≤ far := fun w hw => by
      have := (gx w hw).bound
      rw [c100] at hfar
      grind
    have dn : ∀ w ∈ x, -far ≤ w := fun w hw => by
      have := (gx w hw).bound
      rw [c100] at hfar
      grind
    have re1 := ref20_Residuals x far (by omega) (fun w hw => (ox w hw).mono (by decide)) (ofr.mono (by decide))
    have re2 := ref20_Residuals x (-far) (by omega) (fun w hw => (ox w hw).mono (by decide)) (ofr.neg.mono (by decide))
    have at1 := ref19_AtLeast (x.map fun w => w - far) cq (1 / 2) lw (by simpa using x0) (by rw [List.length_map]; omega) (fun y hy => by
      obtain ⟨w, hw, rfl⟩ := List.mem_map.1 hy
      exact ((ox w hw).sub ofr).mono (by decide)) sc.ok sc.pos ob ol (fa far (.inl up))
    have at2 := ref19_AtLeast (x.map fun w => w - -far) cq (1 / 2) lw (by simpa using x0) (by rw [List.length_map]; omega) (fun y hy => by
      obtain ⟨w, hw, rfl⟩ := List.mem_map.1 hy
      exact ((ox w hw).sub ofr.neg).mono (by decide)) sc.ok sc.pos ob ol (fa (-far) (.inr dn))
    have sv := ref03_SignQ v.2 (ov.2.mono (by decide))
    have sl := ref03_SignQ lw (ol.mono (by decide))
    have fin : eq = true → v.2.num.sign = 0 ∧ lw.num.sign = 0 ∧ m = 1 := fun he => by
      obtain ⟨e1, e2⟩ := es (fun w hw => by
        rw [hxe, if_pos he] at hw ⊢
        have hp : ∀ (n : Nat) (a : Rat), 0 < n → (List.replicate n a).getD 0 0 = a := fun n a h => by
          cases n with
          | zero => exact absurd h (Nat.lt_irrefl 0)
          | succ n => rfl
        rw [List.eq_of_mem_replicate hw, hp _ _ (by omega)])
      have e3 := z1 e2
      rw [e1, e3]
      exact ⟨rfl, rfl, e2⟩
    generalize (x.map fun w => w - far) = r1 at *
    generalize (x.map fun w => w - -far) = r2 at *
    generalize v.2.num.sign = sv' at *
    generalize lw.num.sign = sl' at *
    have cx : cut 0 L.length x = x := by rw [cut_zero, List.take_of_length_le (by omega)]
    clear gL oL mx gx ox hx hn hk hcq sc F z1 z2 fa es ont bt c100 o100 ofr hfar x0 ob up dn ol ov c1 c2 p1 p2 t1 t2
    generalize (1 / 2 : Rat) = qh at *
    cases eq with
    | true =>
      rw [if_pos rfl] at hxe
      obtain ⟨g1, g2, g3⟩ := fin rfl
      subst g1 g2 g3
      obtain ⟨E, hE⟩ : ∃ E : Nat → List Rat, ∀ i, E i = List.replicate i (L.getD 0 0) ++ L.drop i := ⟨_, fun _ => rfl⟩
      have e0 : E 0 = L := by rw [hE]; rfl
      have eL : ∀ i, i ≤ L.length → (E i).length = L.length := fun i hi => by rw [hE, List.length_append, List.length_replicate, List.length_drop]; omega
      have eG : ∀ i, i ≤ L.length → (E i).getD 0 0 = L.getD 0 0 := fun i hi => by
        rw [hE]
        cases i with
        | zero => rfl
        | succ i => rfl
      have eS : ∀ i, i < L.length → (E i).set i (L.getD 0 0) = E (i + 1) := fun i hi => by
        rw [hE, hE, List.set_append_right _ _ (by rw [List.length_replicate]; exact Nat.le_refl _), List.length_replicate, Nat.sub_self, List.replicate_succ', List.append_assoc]
        congr 1
        rw [List.drop_eq_getElem_cons hi]; rfl
      have eE : E L.length = x := by rw [hE, List.drop_eq_nil_of_le (Nat.le_refl _), List.append_nil, hxe]
      generalize L.getD 0 0 = x0 at *
      clear hE Lg
      refine ret_of_awp tab Tryz.func3 rfl rfl (Nat.le_of_ble_eq_true rfl) (fun w0 F0 => ?_)
      repeat' (first | refine wG ?_ | refine wD [500] nb ?_ | refine rgK 9 12 [15] ?_ | refine rg 11 22 ?_ | refine wS ?_ ?_ <;> intro _ | refine finG ?_)
      refine awp_loop1 (fun (i : Nat) => ([(1, .d (.int .i64 c)), (2, .d (.int .i64 parts)), (3, .d (.int .i64 t)), (4, .d (.bool true)), (10, .d (.bool false)), (11, qO L.length), (12, .d (.int .i64 i))], [(500, qB (E i))])) (fun i => i ≤ L.length) (fun i => L.length - i) 0 (by omega) ⟨rfl, rfl, rfl, rfl, rfl, rfl, rfl, rfl⟩ ⟨blkEq (by rw [e0]), trivial⟩ (fun i hi => ?_)
      have hel := eL i hi
      by_cases h3 : i < L.length
      · have g1 := eG i hi
        have g2 := eS i h3
        rw [← g1] at g2
        clear eL eG eS F' at1 at2 re1 re2
        repeat' (first | refine wG ?_ | refine rgK 9 12 [15] ?_ | refine rg 11 22 ?_ | refine wS ?_ ?_ <;> intro _ | refine finG ?_)
        exact ⟨i + 1, by omega, by omega, ⟨rfl, rfl, rfl, rfl, rfl, rfl, iv (by omega), rfl⟩, blkEq g2, trivial⟩
      · have e : i = L.length := by omega
        subst e
        rw [eE]
        clear eL eG eS
        repeat' (first | refine stopA 8 tt ?_ | refine wG ?_ | refine rgK 9 12 [15] ?_ | refine rg 11 22 ?_ | refine wS ?_ ?_ <;> intro _ | refine finG ?_)
        refine stopOut ?_
        refine awp_frz 500 rfl ?_
        refine awp_cast 11 (qsD x) rfl (by
          show LeD (.sl 3 qC 0 (cut 0 L.length x)) (qsD x)
          rw [cx]; exact LeD.refl _) ?_
        repeat' (first | refine wG ?_ | refine wC md1 ?_ | refine wC md2 ?_ | refine wC fr1 ?_ | refine wC fr2 ?_ | refine wC F' ?_ | refine wC nt ?_ | refine wC f100 ?_ | refine wC ad ?_ | refine wC ng ?_ | refine wC re1 ?_ | refine wC re2 ?_ | refine wC at1 ?_ | refine wC at2 ?_ | refine wC aw ?_ | refine wC sv ?_ | refine wC sl ?_ | refine rgK 9 12 [15] ?_ | refine rg 11 22 ?_ | refine wS ?_ ?_ <;> intro _ | refine finG ?_)
        all_goals first | rfl | (exfalso; omega)
    | false =>
      rw [if_neg (by decide)] at hxe
      subst hxe
      clear Lg fin
      refine ret_of_awp tab Tryz.func3 rfl rfl (Nat.le_of_ble_eq_true rfl) (fun w0 F0 => ?_)
      repeat' (first | refine wG ?_ | refine wD [500] nb ?_ | refine rgK 9 12 [15] ?_ | refine rg 11 22 ?_ | refine wS ?_ ?_ <;> intro _ | refine finG ?_)
      refine awp_loop1 (fun (_ : Unit) => ([(1, .d (.int .i64 c)), (2, .d (.int .i64 parts)), (3, .d (.int .i64 t)), (4, .d (.bool false)), (10, .d (.bool false)), (11, qO x.length), (12, .d (.int .i64 0))], [(500, qB x)])) (fun _ => True) (fun _ => 0) () trivial ⟨rfl, rfl, rfl, rfl, rfl, rfl, rfl, rfl⟩ ⟨rfl, trivial⟩ (fun _ hT => ?_)
      clear hT
      repeat' (first | refine stopA 8 tt ?_ | refine wG ?_ | refine rgK 9 12 [15] ?_ | refine rg 11 22 ?_ | refine wS ?_ ?_ <;> intro _ | refine finG ?_)
      refine stopOut ?_
      refine awp_frz 500 rfl ?_
      refine awp_cast 11 (qsD x) rfl (by
        show LeD (.sl 3 qC 0 (cut 0 x.length x)) (qsD x)
        rw [cx]; exact LeD.refl _) ?_
      repeat' (first | refine wG ?_ | refine wC md1 ?_ | refine wC md2 ?_ | refine wC fr1 ?_ | refine wC fr2 ?_ | refine wC F' ?_ | refine wC nt ?_ | refine wC f100 ?_ | refine wC ad ?_ | refine wC ng ?_ | refine wC re1 ?_ | refine wC re2 ?_ | refine wC at1 ?_ | refine wC at2 ?_ | refine wC aw ?_ | refine wC sv ?_ | refine wC sl ?_ | refine rgK 9 12 [15] ?_ | refine rg 11 22 ?_ | refine wS ?_ ?_ <;> intro _ | refine finG ?_)
      all_goals first | rfl | (exfalso; omega)
end Go.Proofs.YtcbadnbonoajjaaGreat
