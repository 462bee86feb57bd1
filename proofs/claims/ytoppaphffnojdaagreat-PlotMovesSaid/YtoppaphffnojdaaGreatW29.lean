/-
  A statement of the seat: what its contract is, and the claim. Conditions: as each says.
-/
import Derived.Test.YtoppaphffnojdaaGreatW28
import Derived.Test.YtoppaphffnojdaaGreatA10
set_option linter.unusedVariables false
set_option linter.unusedSimpArgs false
set_option maxHeartbeats 8000000
namespace Go.Proofs.YtoppaphffnojdaaGreat
open Go.Vw
attribute [local irreducible] awp awpL awpR

theorem ref24_Sorted (l : List R3) (hn : l.length ≤ 200) (hl : ∀ r ∈ l, RatOk r 1000) : Ret Tryz.prog 90 [rsD l] (· = qsD (srt (l.map rv))) :=
  (ref24_SortedB l hn hl).toRet (ds := [rsD l]) true rfl (by rw [srt_len, List.length_map])
theorem ref40_Box (vs : List R3) (lo hi : R3) (c : Int) (hn : vs.length < 9223372036854775807) (hvs : vs.length ≤ 64 → ∀ r ∈ vs, RatOk r 100) (hl : RatOk lo 100) (hh : RatOk hi 100) (h1 : -9223372036854775808 ≤ c) (h2 : c < 9223372036854775808) : Ret Tryz.prog 64 [rsD vs, rD lo, rD hi, .int .i64 c] (· = if chk vs.length (rv lo) (rv hi) c 1 = 0 then .tup [.str (boxB (rv lo) (rv hi) c.toNat (vs.map rv) ++ [10]), .int .i64 0] else .tup [.str [], .int .i64 (chk vs.length (rv lo) (rv hi) c 1)]) := by
  have hk := ref40_check vs lo hi c 1 hn hl hh
  by_cases he : chk vs.length (rv lo) (rv hi) c 1 = 0
  · rw [if_pos he]
    rw [he] at hk
    obtain ⟨n1, n2, hlt, n4, n5, _⟩ := chk_zero he
    obtain ⟨w, rfl⟩ : ∃ w : Nat, c = w := ⟨c.toNat, by omega⟩
    rw [Int.toNat_natCast]
    have hv := hvs (by omega)
    have hvq : ∀ q ∈ vs.map rv, okQ 100 q := fun q hq => by
      obtain ⟨r, hr, rfl⟩ := List.mem_map.1 hq
      exact okQ_rv (hv r hr) (by decide)
    have hv2 : ∀ r ∈ vs, RatOk r 1000 := fun r hr => (hv r hr).up (by decide)
    have hpos : 0 < (vs.map rv).length := by rw [List.length_map]; omega
    have o1 := ref03_Fraction 1 4 (by decide) (by decide) (by decide) (by decide) (by decide)
    have o3 := ref03_Fraction 3 4 (by decide) (by decide) (by decide) (by decide) (by decide)
    rw [show Rat.divInt 1 4 = 1 / 4 by decide +kernel] at o1
    rw [show Rat.divInt 3 4 = 3 / 4 by decide +kernel] at o3
    have q1 := ref16_Quantile vs (rq (1 / 4)) (by omega) (by omega) hv2 (ok_rq ⟨by decide +kernel, by decide +kernel⟩) (by rw [rv_rq]; decide +kernel) (by rw [rv_rq]; decide +kernel)
    have q3 := ref16_Quantile vs (rq (3 / 4)) (by omega) (by omega) hv2 (ok_rq ⟨by decide +kernel, by decide +kernel⟩) (by rw [rv_rq]; decide +kernel) (by rw [rv_rq]; decide +kernel)
    rw [rv_rq] at q1 q3
    have qm := ref16_Median vs (by omega) (by omega) hv2
    have hs := ref24_Sorted vs (by omega) hv2
    have k1 := ok_qLoP hvq hpos (1 / 4)
    have k3 := ok_qLoP hvq hpos (3 / 4)
    have km := ok_medP hvq hpos
    have hslen := srt_len (vs.map rv)
    rw [List.length_map] at hslen
    have hso : ∀ q ∈ srt (vs.map rv), okQ 100 q := fun q hq => hvq q ((srt_perm _).mem_iff.1 hq)
    have hrl : (List.replicate w (32 : UInt8)).length = w := List.length_replicate
    have hde := draw_ends (lo := rv lo) (hi := rv hi) (b := List.replicate w (32 : UInt8)) (vs.map rv) 45
    unfold rngQ at hde
    rw [hrl] at hde
    unfold boxB
    rw [hde]
    clear hde hvq hpos he
    generalize srt (vs.map rv) = s at *
    generalize qLo (vs.map rv) (1 / 4) = xq1 at *
    generalize qLo (vs.map rv) (3 / 4) = xq3 at *
    generalize medLo (vs.map rv) = xm at *
    obtain ⟨L1, hL1⟩ : ∃ L1, (if 0 < (s.filter fun v => okP v (rv lo) (rv hi) w).length then drawP (rv lo) (rv hi) (List.replicate w 32) ((s.filter fun v => okP v (rv lo) (rv hi) w).getD 0 0) ((s.filter fun v => okP v (rv lo) (rv hi) w).getD ((s.filter fun v => okP v (rv lo) (rv hi) w).length - 1) 0) 45 else List.replicate w 32) = L1 := ⟨_, rfl⟩
    rw [hL1]
    have hl1 : L1.length = w := by rw [← hL1]; split; rw [drawP_len]; exact hrl; exact hrl
    have d2 := ref40_draw L1 (rq xq1) (rq xq3) lo hi 61 (by omega) (ok_rq k1) (ok_rq k3) hl hh
    rw [rv_rq, rv_rq, hl1, show (((61 : UInt8).toNat : Nat) : Int) = 61 from rfl] at d2
    have hl2 := drawP_len (rv lo) (rv hi) L1 xq1 xq3 61
    rw [hl1] at hl2
    generalize drawP (rv lo) (rv hi) L1 xq1 xq3 61 = L2 at *
    have d3 := ref40_draw L2 (rq xm) (rq xm) lo hi 124 (by omega) (ok_rq km) (ok_rq km) hl hh
    rw [rv_rq, hl2, show (((124 : UInt8).toNat : Nat) : Int) = 124 from rfl] at d3
    have hl3 := drawP_len (rv lo) (rv hi) L2 xm xm 124
    rw [hl2] at hl3
    generalize drawP (rv lo) (rv hi) L2 xm xm 124 = L3 at *
    refine ret_of_awp tab Tryz.func64 rfl rfl (Nat.le_of_ble_eq_true rfl) (fun w0 F0 => ?_)
    repeat' (first
      | (show awpL _ _ _ _ _; first | refine goL ?_ | refine stepMake (mm := true) (en := eB) (z := 0) tt rfl rfl rfl rfl rfl rfl rfl rfl rfl rfl rfl rfl leL sc sc ?_ | refine stepMake (mm := false) (en := eB) (z := 0) tt rfl rfl rfl rfl rfl rfl rfl rfl rfl rfl rfl rfl leL sc sc ?_ | refine cl 52 tt rfl rfl rfl (hr := hk) (k := ?_) | (refine gdLG ?_ ?_ <;> intro _ <;> try (exfalso; omega)))
      | (show awp _ _ _ _; first | refine stopA 6 tt ?_)
      | (show awp _ _ _ _; first | refine goA ?_ | refine rg 19 12 ?_ | (refine cdG ?_ ?_ <;> intro _ <;> try (exfalso; omega)))
      | (show andThen _ _ _ _; refine goN ?_)
      | (show inBlock _ _ _ _; refine goB ?_)
      | (show awpR _ _ _ _ _ _ _; first | refine goR ?_ | refine clR 52 tt rfl rfl rfl (hr := hk) (k := ?_) | (refine gdRG ?_ ?_ <;> intro _ <;> try (exfalso; omega)))
      | (show retPost _ _ _ _ _; refine finG ?_))
    refine stopOut ?_
    refine goA ?_
    refine awp_loop1 (fun (i : Nat) => ([(0, .d (rsD vs)), (3, .d (.int .i64 w)), (5, .ptr 5 0), (6, .ptr 6 0), (11, .own 36 0 w 5 1), (38, .d (.int .i64 w)), (39, .d (.int .i64 i))], [(5, .box 27 ((rC lo).map V.d)), (6, .box 27 ((rC hi).map V.d)), (36, .data 5 1 eB 0 (mixL (List.replicate w (32 : UInt8)) (List.replicate w (0 : UInt8)) i))])) (fun i => i ≤ w) (fun i => w - i) 0 (by omega) ⟨rfl, rfl, rfl, rfl, rfl, rfl, rfl, rfl⟩ ⟨rfl, rfl, blkEq (by rw [mixL_zero]), trivial⟩ (fun i hi9 => ?_)
    have hml := mixL_len (a := List.replicate w (32 : UInt8)) (r := List.replicate w (0 : UInt8)) (i := i) (by simp) (by simp; omega)
    rw [List.length_replicate] at hml
    by_cases g3 : i < w
    · have hst := mixL_set (a := List.replicate w (32 : UInt8)) (r := List.replicate w (0 : UInt8)) (i := i) 0 (by simp) (by simp; omega)
      rw [show (List.replicate w (32 : UInt8)).getD i 0 = 32 by simp [List.getD_eq_getElem?_getD, g3]] at hst
      clear d2 d3 q1 q3 qm o1 o3 hs
      repeat' (first
        | (show awpL _ _ _ _ _; first | refine goL ?_ | (refine gdLG ?_ ?_ <;> intro _ <;> try (exfalso; omega)))
        | (show awp _ _ _ _; first | refine goA ?_ | refine rg 19 12 ?_ | (refine cdG ?_ ?_ <;> intro _ <;> try (exfalso; omega)))
        | (show andThen _ _ _ _; refine goN ?_)
        | (show inBlock _ _ _ _; refine goB ?_)
        | (show awpR _ _ _ _ _ _ _; first | refine goR ?_ | (refine gdRG ?_ ?_ <;> intro _ <;> try (exfalso; omega)))
        | (show retPost _ _ _ _ _; refine finG ?_))
      exact ⟨i + 1, by omega, by omega, ⟨rfl, rfl, rfl, rfl, rfl, rfl, iv (by omega), rfl⟩, rfl, rfl, blkEq hst, trivial⟩
    have hiw : i = w := by omega
    subst hiw
    have hall := mixL_all (a := List.replicate i (32 : UInt8)) (r := List.replicate i (0 : UInt8)) (by simp)
    rw [List.length_replicate] at hall
    rw [hall]
    clear hml
    repeat' (first
      | (show awpL _ _ _ _ _; first | refine goL ?_ | (refine gdLG ?_ ?_ <;> intro _ <;> try (exfalso; omega)))
      | (show awp _ _ _ _; first | refine stopA 10 tt ?_)
      | (show awp _ _ _ _; first | refine goA ?_ | refine rg 19 12 ?_ | (refine cdG ?_ ?_ <;> intro _ <;> try (exfalso; omega)))
      | (show andThen _ _ _ _; refine goN ?_)
      | (show inBlock _ _ _ _; refine goB ?_)
      | (show awpR _ _ _ _ _ _ _; first | refine goR ?_ | (refine gdRG ?_ ?_ <;> intro _ <;> try (exfalso; omega)))
      | (show retPost _ _ _ _ _; refine finG ?_))
    refine stopOut ?_
    refine awp_rename [(0, .d (rsD vs)), (3, .d (.int .i64 i)), (5, .ptr 5 0), (6, .ptr 6 0), (11, .own 36 0 i 5 1)] [(5, .box 27 ((rC lo).map V.d)), (6, .box 27 ((rC hi).map V.d)), (36, .data 5 1 eB 0 (List.replicate i (32 : UInt8)))] [(36, 600)] ⟨rfl, rfl, rfl, rfl, rfl, rfl⟩ ⟨rfl, rfl, rfl, trivial⟩ ?_
    repeat' (first
      | (show awpL _ _ _ _ _; first | refine goL ?_ | refine cl 90 tt rfl rfl rfl (hr := hs) (k := ?_) | (refine gdLG ?_ ?_ <;> intro _ <;> try (exfalso; omega)))
      | (show awp _ _ _ _; first | refine stopA 12 tt ?_)
      | (show awp _ _ _ _; first | refine goA ?_ | refine rg 19 12 ?_ | (refine cdG ?_ ?_ <;> intro _ <;> try (exfalso; omega)))
      | (show andThen _ _ _ _; refine goN ?_)
      | (show inBlock _ _ _ _; refine goB ?_)
      | (show awpR _ _ _ _ _ _ _; first | refine goR ?_ | refine clR 90 tt rfl rfl rfl (hr := hs) (k := ?_) | (refine gdRG ?_ ?_ <;> intro _ <;> try (exfalso; omega)))
      | (show retPost _ _ _ _ _; refine finG ?_))
    refine stopOut ?_
    refine goA ?_
    refine awp_adopt 13 800 27 3 qC 0 rfl ?_
    refine awp_loop1 (fun (k : Nat) => ([(0, .d (rsD vs)), (3, .d (.int .i64 i)), (5, .ptr 5 0), (6, .ptr 6 0), (11, .own 600 0 i 5 1), (13, .own 800 0 ((s.take k).filter fun v => okP v (rv lo) (rv hi) i).length 27 3), (47, .d (qsD s)), (48, .d (.int .i64 s.length)), (49, .d (.int .i64 k))], [(5, .box 27 ((rC lo).map V.d)), (6, .box 27 ((rC hi).map V.d)), (600, .data 5 1 eB 0 (List.replicate i (32 : UInt8))), (800, qB ((s.take k).filter fun v => okP v (rv lo) (rv hi) i))])) (fun k => k ≤ s.length) (fun k => s.length - k) 0 (by omega) ⟨rfl, rfl, rfl, rfl, rfl, rfl, rfl, rfl, rfl, rfl⟩ ⟨rfl, rfl, rfl, rfl, trivial⟩ (fun k hk2 => ?_)
    have hfl : ((s.take k).filter fun v => okP v (rv lo) (rv hi) i).length ≤ k := Nat.le_trans (List.length_filter_le _ _) (by rw [List.length_take]; omega)
    by_cases g4 : k < s.length
    · have hp := ref40_Place (rq (s.getD k 0)) lo hi i (ok_rq (getD_ok hso g4)) hl hh (by omega) (by omega)
      rw [rv_rq, ifT2] at hp
      have ht := rngQ_take (rv lo) (rv hi) i s g4
      clear d2 d3 q1 q3 qm o1 o3 hs
      generalize ((s.take k).filter fun v => okP v (rv lo) (rv hi) i) = f at *
      cases hok : okP (s.getD k 0) (rv lo) (rv hi) i
      · rw [hok, if_neg (by decide)] at ht
        rw [hok] at hp
        repeat' (first
          | (show awpL _ _ _ _ _; first | refine goL ?_ | refine cl 15 tt rfl rfl rfl (hr := hp) (k := ?_) | (refine gdLG ?_ ?_ <;> intro _ <;> try (exfalso; omega)))
          | (show awp _ _ _ _; first | refine goA ?_ | refine rg 19 12 ?_ | (refine cdG ?_ ?_ <;> intro _ <;> try (exfalso; omega)))
          | (show andThen _ _ _ _; refine goN ?_)
          | (show inBlock _ _ _ _; refine goB ?_)
          | (show awpR _ _ _ _ _ _ _; first | refine goR ?_ | refine clR 15 tt rfl rfl rfl (hr := hp) (k := ?_) | (refine gdRG ?_ ?_ <;> intro _ <;> try (exfalso; omega)))
          | (show retPost _ _ _ _ _; refine finG ?_))
        exact ⟨k + 1, by omega, by omega, ⟨rfl, rfl, rfl, rfl, rfl, ownEq (by rw [ht]), rfl, rfl, iv (by omega), rfl⟩, rfl, rfl, rfl, blkEq ht.symm, trivial⟩
      · rw [hok, if_pos rfl] at ht
        rw [hok] at hp
        repeat' (first
          | (show awpL _ _ _ _ _; first | refine goL ?_ | refine cl 15 tt rfl rfl rfl (hr := hp) (k := ?_) | (refine gdLG ?_ ?_ <;> intro _ <;> try (exfalso; omega)))
          | (show awp _ _ _ _; first | refine goA ?_ | refine rg 19 12 ?_ | (refine cdG ?_ ?_ <;> intro _ <;> try (exfalso; omega)))
          | (show andThen _ _ _ _; refine goN ?_)
          | (show inBlock _ _ _ _; refine goB ?_)
          | (show awpR _ _ _ _ _ _ _; first | refine goR ?_ | refine clR 15 tt rfl rfl rfl (hr := hp) (k := ?_) | (refine gdRG ?_ ?_ <;> intro _ <;> try (exfalso; omega)))
          | (show retPost _ _ _ _ _; refine finG ?_))
        exact ⟨k + 1, by omega, by omega, ⟨rfl, rfl, rfl, rfl, rfl, ownEq (by rw [ht]), rfl, rfl, iv (by omega), rfl⟩, rfl, rfl, rfl, blkEq ht.symm, trivial⟩
    have ek : s.take k = s := List.take_of_length_le (by omega)
    rw [ek] at hfl ⊢
    have hfo : ∀ q ∈ (s.filter fun v => okP v (rv lo) (rv hi) i), okQ 100 q := fun q hq => hso q (List.mem_filter.1 hq).1
    generalize (s.filter fun v => okP v (rv lo) (rv hi) i) = f at *
    repeat' (first
      | (show awpL _ _ _ _ _; first | refine goL ?_ | (refine gdLG ?_ ?_ <;> intro _ <;> try (exfalso; omega)))
      | (show awp _ _ _ _; first | refine stopA 18 tt ?_)
      | (show awp _ _ _ _; first | refine goA ?_ | refine rg 19 12 ?_ | (refine cdG ?_ ?_ <;> intro _ <;> try (exfalso; omega)))
      | (show andThen _ _ _ _; refine goN ?_)
      | (show inBlock _ _ _ _; refine goB ?_)
      | (show awpR _ _ _ _ _ _ _; first | refine goR ?_ | (refine gdRG ?_ ?_ <;> intro _ <;> try (exfalso; omega)))
      | (show retPost _ _ _ _ _; refine finG ?_))
    refine stopOut ?_
    refine awp_meet1 (fun (_ : Unit) => ([(0, .d (rsD vs)), (3, .d (.int .i64 i)), (5, .ptr 5 0), (6, .ptr 6 0), (11, .own 600 0 i 5 1)], [(5, .box 27 ((rC lo).map V.d)), (6, .box 27 ((rC hi).map V.d)), (600, .data 5 1 eB 0 L1)])) (fun _ => True) (fun _ _ => ?_) ?_
    rotate_left
    · clear d2 d3 q1 q3 qm o1 o3 hs
      by_cases hf0 : 0 < f.length
      · rw [if_pos hf0] at hL1
        have d1 := ref40_draw (List.replicate i 32) (rq (f.getD 0 0)) (rq (f.getD (f.length - 1) 0)) lo hi 45 (by rw [hrl]; omega) (ok_rq (getD_ok hfo hf0)) (ok_rq (getD_ok hfo (by omega))) hl hh
        rw [rv_rq, rv_rq, hrl, hL1, show (((45 : UInt8).toNat : Nat) : Int) = 45 from rfl] at d1
        have en : f.length - 1 = ((f.length : Int) - 1).toNat := by omega
        rw [en] at d1
        repeat' (first
          | (show awpL _ _ _ _ _; first | refine goL ?_ | refine clB 101 [] (d1) tt rfl rfl rfl rfl rfl rfl leVT allB ?_ | (refine gdLG ?_ ?_ <;> intro _ <;> try (exfalso; omega)))
          | (show awp _ _ _ _; first | refine goA ?_ | refine rg 19 12 ?_ | (refine cdG ?_ ?_ <;> intro _ <;> try (exfalso; omega)))
          | (show andThen _ _ _ _; refine goN ?_)
          | (show inBlock _ _ _ _; refine goB ?_)
          | (show awpR _ _ _ _ _ _ _; first | refine goR ?_ | (refine gdRG ?_ ?_ <;> intro _ <;> try (exfalso; omega)))
          | (show retPost _ _ _ _ _; refine finG ?_))
        all_goals exact ⟨(), trivial, ⟨rfl, rfl, rfl, rfl, rfl, rfl⟩, rfl, rfl, rfl, trivial⟩
      · rw [if_neg hf0] at hL1
        repeat' (first
          | (show awpL _ _ _ _ _; first | refine goL ?_ | (refine gdLG ?_ ?_ <;> intro _ <;> try (exfalso; omega)))
          | (show awp _ _ _ _; first | refine goA ?_ | refine rg 19 12 ?_ | (refine cdG ?_ ?_ <;> intro _ <;> try (exfalso; omega)))
          | (show andThen _ _ _ _; refine goN ?_)
          | (show inBlock _ _ _ _; refine goB ?_)
          | (show awpR _ _ _ _ _ _ _; first | refine goR ?_ | (refine gdRG ?_ ?_ <;> intro _ <;> try (exfalso; omega)))
          | (show retPost _ _ _ _ _; refine finG ?_))
        exact ⟨(), trivial, ⟨rfl, rfl, rfl, rfl, rfl, rfl⟩, rfl, rfl, blkEq hL1, trivial⟩
    · have hcut : cut 0 i L3 = L3 := by
        have := cut_all L3
        rwa [hl3] at this
      have hcl2 : (cut 0 i L3).length = i := by rw [hcut]; exact hl3
      repeat' (first
        | (show awpL _ _ _ _ _; first | refine goL ?_ | refine clB 101 [] (d2) tt rfl rfl rfl rfl rfl rfl leVT allB ?_ | refine clB 101 [] (d3) tt rfl rfl rfl rfl rfl rfl leVT allB ?_ | refine cl 27 tt rfl rfl rfl (hr := o1) (k := ?_) | refine cl 27 tt rfl rfl rfl (hr := o3) (k := ?_) | refine cl 102 tt rfl rfl rfl (hr := q1) (k := ?_) | refine cl 102 tt rfl rfl rfl (hr := q3) (k := ?_) | refine cl 103 tt rfl rfl rfl (hr := qm) (k := ?_) | (refine gdLG ?_ ?_ <;> intro _ <;> try (exfalso; omega)))
        | (show awp _ _ _ _; first | refine goA ?_ | refine rg 19 12 ?_ | (refine cdG ?_ ?_ <;> intro _ <;> try (exfalso; omega)))
        | (show andThen _ _ _ _; refine goN ?_)
        | (show inBlock _ _ _ _; refine goB ?_)
        | (show awpR _ _ _ _ _ _ _; first | refine goR ?_ | refine clR 27 tt rfl rfl rfl (hr := o1) (k := ?_) | refine clR 27 tt rfl rfl rfl (hr := o3) (k := ?_) | refine clR 102 tt rfl rfl rfl (hr := q1) (k := ?_) | refine clR 102 tt rfl rfl rfl (hr := q3) (k := ?_) | refine clR 103 tt rfl rfl rfl (hr := qm) (k := ?_) | (refine gdRG ?_ ?_ <;> intro _ <;> try (exfalso; omega)))
        | (show retPost _ _ _ _ _; refine finG ?_))
      all_goals rw [hcut]
  · rw [if_neg he]
    generalize chk vs.length (rv lo) (rv hi) c 1 = e at *
    refine ret_of_awp tab Tryz.func64 rfl rfl (Nat.le_of_ble_eq_true rfl) (fun w0 F0 => ?_)
    repeat' (first
      | (show awpL _ _ _ _ _; first | refine goL ?_ | refine cl 52 tt rfl rfl rfl (hr := hk) (k := ?_) | (refine gdLG ?_ ?_ <;> intro _ <;> try (exfalso; omega)))
      | (show awp _ _ _ _; first | refine goA ?_ | refine rg 19 12 ?_ | (refine cdG ?_ ?_ <;> intro _ <;> try (exfalso; omega)))
      | (show andThen _ _ _ _; refine goN ?_)
      | (show inBlock _ _ _ _; refine goB ?_)
      | (show awpR _ _ _ _ _ _ _; first | refine goR ?_ | refine clR 52 tt rfl rfl rfl (hr := hk) (k := ?_) | (refine gdRG ?_ ?_ <;> intro _ <;> try (exfalso; omega)))
      | (show retPost _ _ _ _ _; refine finG ?_))
    all_goals rfl
end Go.Proofs.YtoppaphffnojdaaGreat
