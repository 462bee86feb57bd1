/-
  A statement of the seat: what its contract is, and the claim. Conditions: as each says.
-/
import Derived.Test.YtoppaphffnojdaaGreatW08
import Derived.Test.YtoppaphffnojdaaGreatPlotsC
import Derived.Test.YtoppaphffnojdaaGreatA10
set_option linter.unusedVariables false
set_option linter.unusedSimpArgs false
set_option maxHeartbeats 16000000
namespace Go.Proofs.YtoppaphffnojdaaGreat
open Go.Vw
attribute [local irreducible] awp awpL awpR

theorem leRsQs (l : List Rat) : LeD (qsD l) (rsD (l.map rq)) := LeD.sl (by simp) fun i a b ha hb => by
  rw [List.getElem?_map, ha] at hb
  have e : rq a = b := Option.some.inj hb
  subst e
  exact ⟨rfl, LeL.refl _⟩
theorem map_rv_rq (l : List Rat) : (l.map rq).map rv = l := by
  rw [List.map_map]
  exact (List.map_congr_left (fun q _ => rv_rq q)).trans (List.map_id l)
theorem plot_StripQ (vs : List Rat) (lo hi : Rat) (w : Nat) (h1 : 1 ≤ vs.length) (h2 : vs.length ≤ 64) (hvs : ∀ q ∈ vs, okQ 100 q) (hl : okQ 100 lo) (hh : okQ 100 hi) (hlt : lo < hi) (w1 : 1 ≤ w) (w2 : w ≤ 100) : Ret Tryz.prog 19 [qsD vs, qD lo, qD hi, .int .i64 w] (· = .tup [.str (lineB (countsZ lo hi w vs) ++ [10]), .int .i64 0]) := by
  have h := plot_Strip (vs.map rq) (rq lo) (rq hi) w (by rw [List.length_map]; omega) (fun _ r hr => by
    obtain ⟨q, hq, rfl⟩ := List.mem_map.1 hr
    exact ok_rq (hvs q hq)) (ok_rq hl) (ok_rq hh) (by omega) (by omega)
  rw [List.length_map, rv_rq, rv_rq, map_rv_rq] at h
  have hc : chk vs.length lo hi w 1 = 0 := by
    unfold chk
    rw [if_neg (by omega), if_neg]
    intro hx
    rcases hx with hx | hx
    · exact hx hlt
    · omega
  rw [if_pos hc] at h
  exact h.args (LeT.cons (leRsQs vs) (LeT.refl _))
theorem counts_true (l : List Int) (hl : l.length ≤ 9223372036854775807) (hx : I64 l) : Ret Tryz.prog 4 [i64s l] (· = .bool true) := by
  have aw := law40_awake
  obtain ⟨m, m1, m2, hN0⟩ := world_New l hl hx
  have hN : RetB Tryz.prog 10 [.d (i64s l)] (lookB []) (.ptr 1000 0) (lookB [(1000, tp m 0)]) := hN0.ren [(10, 1000)]
  clear hN0
  obtain ⟨vs, a1, v1, v2, v3, q1, hV⟩ := world_Values m 0 9 m1 m2 (by omega) (by decide) (by decide)
  obtain ⟨r, a2, r1, r2, q2, hR⟩ := world_Next m a1 30 m1 m2 q1 (by decide) (by decide)
  have f1 := ref03_FromIntW (-6) (by decide) (by decide)
  have f2 := ref03_FromIntW 6 (by decide) (by decide)
  have k1 : okQ 10 ((-6 : Int) : Rat) := ok_intW (by decide)
  have k2 : okQ 10 ((6 : Int) : Rat) := ok_intW (by decide)
  have hlt : ((-6 : Int) : Rat) < ((6 : Int) : Rat) := by decide
  generalize ((-6 : Int) : Rat) = lo at *
  generalize ((6 : Int) : Rat) = hi at *
  obtain ⟨w, hw⟩ : ∃ w : Nat, 1 + r = w := ⟨(1 + r).toNat, by omega⟩
  have hs := plot_StripQ vs lo hi w v1 (by omega) (fun q hq => (v3 q hq).mono (by decide)) (k1.mono (by decide)) (k2.mono (by decide)) hlt (by omega) (by omega)
  have hlen := counts_len lo hi w vs
  have hbd := counts_bd lo hi w vs
  have hsum := counts_sum (c := w) hlt (by omega) vs
  have hin := countIn_le lo hi vs
  rw [Int.toNat_natCast] at hlen
  generalize countsZ lo hi w vs = cz at *
  have s1 : (lineB cz ++ [10]).length = w + 1 := by rw [List.length_append, lineB_len, hlen]; rfl
  have s2 : (lineB cz ++ [10]).getD w 0 = 10 := by
    rw [List.getD_eq_getElem?_getD, List.getElem?_append_right (by rw [lineB_len]; omega), lineB_len, hlen, Nat.sub_self]; rfl
  have s3 : ∀ i, i < w → (((lineB cz ++ [10]).getD i 0).toNat : Int) = markZ (cz.getD i 0) := by
    intro i hi'
    rw [List.getD_eq_getElem?_getD, List.getElem?_append_left (by rw [lineB_len]; omega), ← List.getD_eq_getElem?_getD, lineB_getD (by omega)]
    have hb := markZ_bd (getD_bd hbd (show i < cz.length by omega)).1
    rw [UInt8.toNat_ofNat']
    omega
  generalize lineB cz ++ [10] = s at *
  rw [← hw] at hs
  have hwt : (1 + r).toNat = w := by omega
  have s2' : ((s.getD (1 + r).toNat 0).toNat : Int) = 10 := by rw [hwt, s2]; rfl
  clear hlt aw
  have aw := law40_awake
  refine ret_of_awp tab Tryz.func4 rfl rfl (Nat.le_of_ble_eq_true rfl) (fun w0 F0 => ?_)
  repeat' (first
    | (show awpL _ _ _ _ _; first | refine goL ?_ | refine clB 10 [1000] (hN) tt rfl rfl rfl rfl rfl rfl leVT allB ?_ | refine clB 16 [] (hV) tt rfl rfl rfl rfl rfl rfl leVT allB ?_ | refine clB 18 [] (hR) tt rfl rfl rfl rfl rfl rfl leVT allB ?_ | refine cl 17 tt rfl rfl rfl (hr := f1) (k := ?_) | refine cl 17 tt rfl rfl rfl (hr := f2) (k := ?_) | refine cl 19 tt rfl rfl rfl (hr := hs) (k := ?_) | (refine gdLD rfl rfl (fun _ => ?_) (fun _ => ?_) <;> try (exfalso; omega)) | (refine gdLN rfl rfl (fun _ => ?_) (fun _ => ?_) <;> try (exfalso; omega)) | refine gdL rfl rfl (fun _ => ?_) (fun _ => ?_))
    | (show awp _ _ _ _; first | refine goA ?_ | (refine awp_condD rfl (fun _ => ?_) (fun _ => ?_) <;> try (exfalso; omega)) | (refine awp_condN rfl (fun _ => ?_) (fun _ => ?_) <;> try (exfalso; omega)) | refine awp_cond rfl (fun _ => ?_) (fun _ => ?_))
    | (show andThen _ _ _ _; first | refine goN ?_)
    | (show inBlock _ _ _ _; first | refine goB ?_)
    | (show awpR _ _ _ _ _ _; first | refine goR ?_ | refine clR 17 tt rfl rfl rfl (hr := f1) (k := ?_) | refine clR 17 tt rfl rfl rfl (hr := f2) (k := ?_) | refine clR 19 tt rfl rfl rfl (hr := hs) (k := ?_) | (refine gdRD rfl rfl (fun _ => ?_) (fun _ => ?_) <;> try (exfalso; omega)) | (refine gdRN rfl rfl (fun _ => ?_) (fun _ => ?_) <;> try (exfalso; omega)) | refine gdR rfl rfl (fun _ => ?_) (fun _ => ?_))
    | (show retPost _ _ _ _ _; first | refine finF true rfl rfl sc ?_ | refine finF false rfl rfl sc ?_ | refine finC false rfl rfl sc sc ?_ | refine finN rfl rfl sc ?_ | refine finL true rfl rfl sc rfl (LeR.cons rfl leL LeR.nil) ?_ | refine finE true rfl rfl sc ?_ | refine finE false rfl rfl sc ?_)
    | (show retPostB _ _ _ _ _ _; first | refine finB rfl rfl ?_ ?_ | refine finBT rfl rfl rfl ?_ ?_))
  refine awp_loop1 (fun (i : Nat) => ([(5, .ptr 5 0), (6, .ptr 6 0), (7, .d (.int .i64 (1 + r))), (8, .d (.str s)), (10, .d (.int .i64 (countIn lo hi (vs.take i) : Nat))), (11, .d (.int .i64 0)), (47, .d (qsD vs)), (48, .d (.int .i64 vs.length)), (49, .d (.int .i64 i))], [(5, .box 27 ((rC (rq lo)).map V.d)), (6, .box 27 ((rC (rq hi)).map V.d))])) (fun i => i ≤ vs.length) (fun i => vs.length - i) 0 (by omega) ⟨rfl, rfl, rfl, rfl, rfl, rfl, rfl, rfl, rfl, rfl⟩ ⟨rfl, rfl, trivial⟩ (fun i hi' => ?_)
  have hcl := countIn_le lo hi (vs.take i)
  rw [List.length_take] at hcl
  by_cases h3 : i < vs.length
  · have kq := getD_ok v3 h3
    have c1 := ref03_CompareQ (vs.getD i 0) lo (kq.mono (by decide)) (k1.mono (by decide))
    have c2 := ref03_CompareQ (vs.getD i 0) hi (kq.mono (by decide)) (k2.mono (by decide))
    have p1 := cmpQ_neg (vs.getD i 0) lo
    have p2 := cmpQ_pos (vs.getD i 0) hi
    have ht := countIn_take (lo := lo) (hi := hi) h3
    generalize countIn lo hi (vs.take i) = n at *
    obtain ⟨n', hn'⟩ : ∃ n', countIn lo hi (vs.take (i + 1)) = n' := ⟨_, rfl⟩
    rw [hn'] at ht
    obtain ⟨u, hu⟩ : ∃ u, cmpQ (vs.getD i 0) lo = u := ⟨_, rfl⟩
    obtain ⟨t, ht2⟩ : ∃ t, cmpQ (vs.getD i 0) hi = t := ⟨_, rfl⟩
    rw [hu] at c1 p1
    rw [ht2] at c2 p2
    have hcase : (¬ u < 0 ∧ ¬ 0 < t ∧ n' = n + 1) ∨ ((u < 0 ∨ 0 < t) ∧ n' = n) := by
      cases hk : inQ lo hi (vs.getD i 0)
      · rw [hk, if_neg (by decide)] at ht
        refine .inr ⟨Classical.byContradiction fun h => ?_, ht⟩
        have h1 : ¬ u < 0 := fun e => h (.inl e)
        have h2 : ¬ 0 < t := fun e => h (.inr e)
        rw [p1, Rat.not_lt] at h1
        rw [p2, Rat.not_lt] at h2
        unfold inQ at hk
        rw [decide_eq_true h1, decide_eq_true h2] at hk
        exact absurd hk (by decide)
      · rw [hk, if_pos rfl] at ht
        unfold inQ at hk
        rw [Bool.and_eq_true, decide_eq_true_eq, decide_eq_true_eq] at hk
        rw [p1, p2, Rat.not_lt, Rat.not_lt]
        exact .inl ⟨hk.1, hk.2, ht⟩
    clear p1 p2 hu ht2 ht
    rcases hcase with ⟨g1, g2, g3⟩ | ⟨g1, g3⟩
    · repeat' (first
        | (show awpL _ _ _ _ _; first | refine goL ?_ | refine cl 20 tt rfl rfl rfl (hr := c1) (k := ?_) | refine cl 20 tt rfl rfl rfl (hr := c2) (k := ?_) | (refine gdLD rfl rfl (fun _ => ?_) (fun _ => ?_) <;> try (exfalso; omega)) | (refine gdLN rfl rfl (fun _ => ?_) (fun _ => ?_) <;> try (exfalso; omega)) | refine gdL rfl rfl (fun _ => ?_) (fun _ => ?_))
        | (show awp _ _ _ _; first | refine goA ?_ | (refine awp_condD rfl (fun _ => ?_) (fun _ => ?_) <;> try (exfalso; omega)) | (refine awp_condN rfl (fun _ => ?_) (fun _ => ?_) <;> try (exfalso; omega)) | refine awp_cond rfl (fun _ => ?_) (fun _ => ?_))
        | (show andThen _ _ _ _; first | refine goN ?_)
        | (show inBlock _ _ _ _; first | refine goB ?_)
        | (show awpR _ _ _ _ _ _; first | refine goR ?_ | refine clR 20 tt rfl rfl rfl (hr := c1) (k := ?_) | refine clR 20 tt rfl rfl rfl (hr := c2) (k := ?_) | (refine gdRD rfl rfl (fun _ => ?_) (fun _ => ?_) <;> try (exfalso; omega)) | (refine gdRN rfl rfl (fun _ => ?_) (fun _ => ?_) <;> try (exfalso; omega)) | refine gdR rfl rfl (fun _ => ?_) (fun _ => ?_))
        | (show retPost _ _ _ _ _; first | refine finF true rfl rfl sc ?_ | refine finF false rfl rfl sc ?_ | refine finC false rfl rfl sc sc ?_ | refine finN rfl rfl sc ?_ | refine finL true rfl rfl sc rfl (LeR.cons rfl leL LeR.nil) ?_ | refine finE true rfl rfl sc ?_ | refine finE false rfl rfl sc ?_)
        | (show retPostB _ _ _ _ _ _; first | refine finB rfl rfl ?_ ?_ | refine finBT rfl rfl rfl ?_ ?_))
      exact ⟨i + 1, by omega, by omega, ⟨rfl, rfl, rfl, rfl, iv (by omega), rfl, rfl, rfl, iv (by omega), rfl⟩, rfl, rfl, trivial⟩
    · repeat' (first
        | (show awpL _ _ _ _ _; first | refine goL ?_ | refine cl 20 tt rfl rfl rfl (hr := c1) (k := ?_) | refine cl 20 tt rfl rfl rfl (hr := c2) (k := ?_) | (refine gdLD rfl rfl (fun _ => ?_) (fun _ => ?_) <;> try (exfalso; omega)) | (refine gdLN rfl rfl (fun _ => ?_) (fun _ => ?_) <;> try (exfalso; omega)) | refine gdL rfl rfl (fun _ => ?_) (fun _ => ?_))
        | (show awp _ _ _ _; first | refine goA ?_ | (refine awp_condD rfl (fun _ => ?_) (fun _ => ?_) <;> try (exfalso; omega)) | (refine awp_condN rfl (fun _ => ?_) (fun _ => ?_) <;> try (exfalso; omega)) | refine awp_cond rfl (fun _ => ?_) (fun _ => ?_))
        | (show andThen _ _ _ _; first | refine goN ?_)
        | (show inBlock _ _ _ _; first | refine goB ?_)
        | (show awpR _ _ _ _ _ _; first | refine goR ?_ | refine clR 20 tt rfl rfl rfl (hr := c1) (k := ?_) | refine clR 20 tt rfl rfl rfl (hr := c2) (k := ?_) | (refine gdRD rfl rfl (fun _ => ?_) (fun _ => ?_) <;> try (exfalso; omega)) | (refine gdRN rfl rfl (fun _ => ?_) (fun _ => ?_) <;> try (exfalso; omega)) | refine gdR rfl rfl (fun _ => ?_) (fun _ => ?_))
        | (show retPost _ _ _ _ _; first | refine finF true rfl rfl sc ?_ | refine finF false rfl rfl sc ?_ | refine finC false rfl rfl sc sc ?_ | refine finN rfl rfl sc ?_ | refine finL true rfl rfl sc rfl (LeR.cons rfl leL LeR.nil) ?_ | refine finE true rfl rfl sc ?_ | refine finE false rfl rfl sc ?_)
        | (show retPostB _ _ _ _ _ _; first | refine finB rfl rfl ?_ ?_ | refine finBT rfl rfl rfl ?_ ?_))
      all_goals exact ⟨i + 1, by omega, by omega, ⟨rfl, rfl, rfl, rfl, iv (by omega), rfl, rfl, rfl, iv (by omega), rfl⟩, rfl, rfl, trivial⟩
  · have e : vs.take i = vs := List.take_of_length_le (by omega)
    rw [e]
    clear hcl
    generalize countIn lo hi vs = n at *
    repeat' (first
      | (show awpL _ _ _ _ _; first | refine goL ?_ | (refine gdLD rfl rfl (fun _ => ?_) (fun _ => ?_) <;> try (exfalso; omega)) | (refine gdLN rfl rfl (fun _ => ?_) (fun _ => ?_) <;> try (exfalso; omega)) | refine gdL rfl rfl (fun _ => ?_) (fun _ => ?_))
      | (show awp _ _ _ _; first | refine goA ?_ | (refine awp_condD rfl (fun _ => ?_) (fun _ => ?_) <;> try (exfalso; omega)) | (refine awp_condN rfl (fun _ => ?_) (fun _ => ?_) <;> try (exfalso; omega)) | refine awp_cond rfl (fun _ => ?_) (fun _ => ?_))
      | (show andThen _ _ _ _; first | refine goN ?_)
      | (show inBlock _ _ _ _; first | refine goB ?_)
      | (show awpR _ _ _ _ _ _; first | refine goR ?_ | (refine gdRD rfl rfl (fun _ => ?_) (fun _ => ?_) <;> try (exfalso; omega)) | (refine gdRN rfl rfl (fun _ => ?_) (fun _ => ?_) <;> try (exfalso; omega)) | refine gdR rfl rfl (fun _ => ?_) (fun _ => ?_))
      | (show retPost _ _ _ _ _; first | refine finF true rfl rfl sc ?_ | refine finF false rfl rfl sc ?_ | refine finC false rfl rfl sc sc ?_ | refine finN rfl rfl sc ?_ | refine finL true rfl rfl sc rfl (LeR.cons rfl leL LeR.nil) ?_ | refine finE true rfl rfl sc ?_ | refine finE false rfl rfl sc ?_)
      | (show retPostB _ _ _ _ _ _; first | refine finB rfl rfl ?_ ?_ | refine finBT rfl rfl rfl ?_ ?_))
    refine awp_loop1 (fun (j : Nat) => ([(7, .d (.int .i64 (1 + r))), (8, .d (.str s)), (10, .d (.int .i64 n)), (11, .d (.int .i64 (cz.take j).sum)), (14, .d (.int .i64 j))], [])) (fun j => j ≤ w) (fun j => w - j) 0 (by omega) ⟨rfl, rfl, rfl, rfl, rfl, rfl⟩ trivial (fun j hj => ?_)
    by_cases h4 : j < w
    · have hc := s3 j h4
      have hst := sum_take cz j (by omega)
      have hg := getD_bd hbd (show j < cz.length by omega)
      have hsb := sum_take_bd hbd (by omega) j (by omega)
      have hb9 : (vs.length : Int) ≤ 9 := by omega
      have hsb2 : (cz.take j).sum ≤ 300 := by
        have : (vs.length : Int) * j ≤ 9 * j := Int.mul_le_mul_of_nonneg_right hb9 (by omega)
        omega
      have hsb1 := hsb.1
      clear hsb hbd s3
      generalize cz.getD j 0 = z at *
      generalize (cz.take j).sum = sm at *
      obtain ⟨sm', hsm⟩ : ∃ sm', (cz.take (j + 1)).sum = sm' := ⟨_, rfl⟩
      rw [hsm] at hst
      unfold markZ at hc
      by_cases hz : z = 0
      · rw [if_pos hz] at hc
        repeat' (first
          | (show awpL _ _ _ _ _; first | refine goL ?_ | (refine gdLD rfl rfl (fun _ => ?_) (fun _ => ?_) <;> try (exfalso; omega)) | (refine gdLN rfl rfl (fun _ => ?_) (fun _ => ?_) <;> try (exfalso; omega)) | refine gdL rfl rfl (fun _ => ?_) (fun _ => ?_))
          | (show awp _ _ _ _; first | refine goA ?_ | (refine awp_condD rfl (fun _ => ?_) (fun _ => ?_) <;> try (exfalso; omega)) | (refine awp_condN rfl (fun _ => ?_) (fun _ => ?_) <;> try (exfalso; omega)) | refine awp_cond rfl (fun _ => ?_) (fun _ => ?_))
          | (show andThen _ _ _ _; first | refine goN ?_)
          | (show inBlock _ _ _ _; first | refine goB ?_)
          | (show awpR _ _ _ _ _ _; first | refine goR ?_ | (refine gdRD rfl rfl (fun _ => ?_) (fun _ => ?_) <;> try (exfalso; omega)) | (refine gdRN rfl rfl (fun _ => ?_) (fun _ => ?_) <;> try (exfalso; omega)) | refine gdR rfl rfl (fun _ => ?_) (fun _ => ?_))
          | (show retPost _ _ _ _ _; first | refine finF true rfl rfl sc ?_ | refine finF false rfl rfl sc ?_ | refine finC false rfl rfl sc sc ?_ | refine finN rfl rfl sc ?_ | refine finL true rfl rfl sc rfl (LeR.cons rfl leL LeR.nil) ?_ | refine finE true rfl rfl sc ?_ | refine finE false rfl rfl sc ?_)
          | (show retPostB _ _ _ _ _ _; first | refine finB rfl rfl ?_ ?_ | refine finBT rfl rfl rfl ?_ ?_))
        exact ⟨j + 1, by omega, by omega, ⟨rfl, rfl, rfl, iv (by omega), iv (by omega), rfl⟩, trivial⟩
      · rw [if_neg hz, if_neg (by omega)] at hc
        repeat' (first
          | (show awpL _ _ _ _ _; first | refine goL ?_ | (refine gdLD rfl rfl (fun _ => ?_) (fun _ => ?_) <;> try (exfalso; omega)) | (refine gdLN rfl rfl (fun _ => ?_) (fun _ => ?_) <;> try (exfalso; omega)) | refine gdL rfl rfl (fun _ => ?_) (fun _ => ?_))
          | (show awp _ _ _ _; first | refine goA ?_ | (refine awp_condD rfl (fun _ => ?_) (fun _ => ?_) <;> try (exfalso; omega)) | (refine awp_condN rfl (fun _ => ?_) (fun _ => ?_) <;> try (exfalso; omega)) | refine awp_cond rfl (fun _ => ?_) (fun _ => ?_))
          | (show andThen _ _ _ _; first | refine goN ?_)
          | (show inBlock _ _ _ _; first | refine goB ?_)
          | (show awpR _ _ _ _ _ _; first | refine goR ?_ | (refine gdRD rfl rfl (fun _ => ?_) (fun _ => ?_) <;> try (exfalso; omega)) | (refine gdRN rfl rfl (fun _ => ?_) (fun _ => ?_) <;> try (exfalso; omega)) | refine gdR rfl rfl (fun _ => ?_) (fun _ => ?_))
          | (show retPost _ _ _ _ _; first | refine finF true rfl rfl sc ?_ | refine finF false rfl rfl sc ?_ | refine finC false rfl rfl sc sc ?_ | refine finN rfl rfl sc ?_ | refine finL true rfl rfl sc rfl (LeR.cons rfl leL LeR.nil) ?_ | refine finE true rfl rfl sc ?_ | refine finE false rfl rfl sc ?_)
          | (show retPostB _ _ _ _ _ _; first | refine finB rfl rfl ?_ ?_ | refine finBT rfl rfl rfl ?_ ?_))
        exact ⟨j + 1, by omega, by omega, ⟨rfl, rfl, rfl, iv (by omega), iv (by omega), rfl⟩, trivial⟩
    · have e2 : cz.take j = cz := List.take_of_length_le (by omega)
      rw [e2, hsum]
      clear s3 hbd
      repeat' (first
        | (show awpL _ _ _ _ _; first | refine goL ?_ | refine cl 9 tt rfl rfl rfl (hr := aw) (k := ?_) | (refine gdLD rfl rfl (fun _ => ?_) (fun _ => ?_) <;> try (exfalso; omega)) | (refine gdLN rfl rfl (fun _ => ?_) (fun _ => ?_) <;> try (exfalso; omega)) | refine gdL rfl rfl (fun _ => ?_) (fun _ => ?_))
        | (show awp _ _ _ _; first | refine goA ?_ | (refine awp_condD rfl (fun _ => ?_) (fun _ => ?_) <;> try (exfalso; omega)) | (refine awp_condN rfl (fun _ => ?_) (fun _ => ?_) <;> try (exfalso; omega)) | refine awp_cond rfl (fun _ => ?_) (fun _ => ?_))
        | (show andThen _ _ _ _; first | refine goN ?_)
        | (show inBlock _ _ _ _; first | refine goB ?_)
        | (show awpR _ _ _ _ _ _; first | refine goR ?_ | refine clR 9 tt rfl rfl rfl (hr := aw) (k := ?_) | (refine gdRD rfl rfl (fun _ => ?_) (fun _ => ?_) <;> try (exfalso; omega)) | (refine gdRN rfl rfl (fun _ => ?_) (fun _ => ?_) <;> try (exfalso; omega)) | refine gdR rfl rfl (fun _ => ?_) (fun _ => ?_))
        | (show retPost _ _ _ _ _; first | refine finF true rfl rfl sc ?_ | refine finF false rfl rfl sc ?_ | refine finC false rfl rfl sc sc ?_ | refine finN rfl rfl sc ?_ | refine finL true rfl rfl sc rfl (LeR.cons rfl leL LeR.nil) ?_ | refine finE true rfl rfl sc ?_ | refine finE false rfl rfl sc ?_)
        | (show retPostB _ _ _ _ _ _; first | refine finB rfl rfl ?_ ?_ | refine finBT rfl rfl rfl ?_ ?_))
      all_goals first | rfl | (rename_i hc; exact absurd rfl hc)
end Go.Proofs.YtoppaphffnojdaaGreat
