/-
  A statement of the seat: what its contract is, and the claim. Conditions: as each says.
-/
import Derived.Test.YtoppaphffnojdaaGreatW27
import Derived.Test.YtoppaphffnojdaaGreatA10
set_option linter.unusedVariables false
set_option linter.unusedSimpArgs false
set_option maxHeartbeats 8000000
namespace Go.Proofs.YtoppaphffnojdaaGreat
open Go.Vw
attribute [local irreducible] awp awpL awpR

theorem srt_okG {k : Nat} {l : List Rat} (h : ∀ q ∈ l, okQ k q) (i : Nat) (hi : i < l.length) : okQ k ((srt l).getD i 0) := by
  have hm : (srt l).getD i 0 ∈ srt l := by
    have hl := srt_len l
    rw [List.getD_eq_getElem?_getD, List.getElem?_eq_getElem (show i < (srt l).length by omega)]
    exact List.getElem_mem _
  exact h _ ((srt_perm l).mem_iff.1 hm)
theorem ok_qLoP {k : Nat} {l : List Rat} (h : ∀ q ∈ l, okQ k q) (h0 : 0 < l.length) (p : Rat) : okQ k (qLo l p) := by
  unfold qLo
  exact srt_okG h _ (by omega)
theorem ok_medP {k : Nat} {l : List Rat} (h : ∀ q ∈ l, okQ k q) (h0 : 0 < l.length) : okQ k (medLo l) := by
  unfold medLo
  exact srt_okG h _ (by omega)
theorem plot_Box (vs : List R3) (lo hi : R3) (c : Int) (hn : vs.length < 9223372036854775807) (hvs : vs.length ≤ 64 → ∀ r ∈ vs, RatOk r 100) (hl : RatOk lo 100) (hh : RatOk hi 100) (h1 : -9223372036854775808 ≤ c) (h2 : c < 9223372036854775808) : Ret Tryz.prog 29 [rsD vs, rD lo, rD hi, .int .i64 c] (· = if chk vs.length (rv lo) (rv hi) c 1 = 0 then .tup [.str (boxB (rv lo) (rv hi) c.toNat (vs.map rv) ++ [10]), .int .i64 0] else .tup [.str [], .int .i64 (chk vs.length (rv lo) (rv hi) c 1)]) := by
  have hk := plot_check vs lo hi c 1 hn hl hh
  by_cases he : chk vs.length (rv lo) (rv hi) c 1 = 0
  · rw [if_pos he]
    rw [he] at hk
    obtain ⟨n1, n2, hlt, n4, n5, _⟩ := chk_zero he
    obtain ⟨w, rfl⟩ : ∃ w : Nat, c = w := ⟨c.toNat, by omega⟩
    rw [Int.toNat_natCast]
    have hb0 := plot_blanks w (by omega)
    have hb : RetB Tryz.prog 47 [.d (.int .i64 w)] (lookB []) (.own 600 0 w 5 1) (lookB [(600, .data 5 1 eB 0 (List.replicate w (32 : UInt8)))]) := hb0.ren [(6, 600)]
    have hv := hvs (by omega)
    have hvq : ∀ q ∈ vs.map rv, okQ 100 q := fun q hq => by
      obtain ⟨r, hr, rfl⟩ := List.mem_map.1 hq
      exact okQ_rv (hv r hr) (by decide)
    have hv2 : ∀ r ∈ vs, RatOk r 1000 := fun r hr => (hv r hr).up (by decide)
    have hpos : 0 < (vs.map rv).length := by rw [List.length_map]; omega
    have o1 := exact_Over 1 4 (by decide) (by decide) (by decide) (by decide)
    have o3 := exact_Over 3 4 (by decide) (by decide) (by decide) (by decide)
    rw [show ((1 : Int) : Rat) / ((4 : Int) : Rat) = 1 / 4 from rfl] at o1
    rw [show ((3 : Int) : Rat) / ((4 : Int) : Rat) = 3 / 4 from rfl] at o3
    have q1 := order_Quantile vs (rq (1 / 4)) (by omega) (by omega) hv2 (ok_rq ⟨by decide +kernel, by decide +kernel⟩) (by rw [rv_rq]; decide +kernel) (by rw [rv_rq]; decide +kernel)
    have q3 := order_Quantile vs (rq (3 / 4)) (by omega) (by omega) hv2 (ok_rq ⟨by decide +kernel, by decide +kernel⟩) (by rw [rv_rq]; decide +kernel) (by rw [rv_rq]; decide +kernel)
    rw [rv_rq] at q1 q3
    have qm := order_Median vs (by omega) (by omega) hv2
    have k1 := ok_qLoP hvq hpos (1 / 4)
    have k3 := ok_qLoP hvq hpos (3 / 4)
    have km := ok_medP hvq hpos
    have p1 := plot_Place (rq (qLo (vs.map rv) (1 / 4))) lo hi w (ok_rq k1) hl hh (by omega) (by omega)
    have p3 := plot_Place (rq (qLo (vs.map rv) (3 / 4))) lo hi w (ok_rq k3) hl hh (by omega) (by omega)
    have pm := plot_Place (rq (medLo (vs.map rv))) lo hi w (ok_rq km) hl hh (by omega) (by omega)
    rw [rv_rq, ifT2] at p1 p3 pm
    have hrl : (List.replicate w (32 : UInt8)).length = w := List.length_replicate
    have hends := ends_bd (rv lo) (rv hi) w (vs.map rv)
    unfold boxB
    have d1 := plot_draw (List.replicate w 32) (leastC (rv lo) (rv hi) w w (vs.map rv)) (mostC (rv lo) (rv hi) w (-1) (vs.map rv)) 45 (by omega) hends.1 (by omega) hends.2.2.1 (by rw [hrl]; omega)
    rw [hrl] at d1
    have hl1 := drawL_len (List.replicate w 32) (leastC (rv lo) (rv hi) w w (vs.map rv)) (mostC (rv lo) (rv hi) w (-1) (vs.map rv)) 45
    rw [hrl] at hl1
    unfold drawP
    rw [hl1]
    clear hb0 he hvq hpos k1 k3 km
    rw [show (((45 : UInt8).toNat : Nat) : Int) = 45 from rfl] at d1
    have i1 := @cell_in (qLo (vs.map rv) (1 / 4)) (rv lo) (rv hi) w
    have i3 := @cell_in (qLo (vs.map rv) (3 / 4)) (rv lo) (rv hi) w
    have im := @cell_in (medLo (vs.map rv)) (rv lo) (rv hi) w
    generalize qLo (vs.map rv) (1 / 4) = xq1 at *
    generalize qLo (vs.map rv) (3 / 4) = xq3 at *
    generalize medLo (vs.map rv) = xm at *
    generalize cellZ xq1 (rv lo) (rv hi) w = c1 at *
    generalize cellZ xq3 (rv lo) (rv hi) w = c3 at *
    generalize okP xq1 (rv lo) (rv hi) w = b1 at *
    generalize okP xq3 (rv lo) (rv hi) w = b3 at *
    obtain ⟨L1, hL1⟩ : ∃ L1, drawL (List.replicate w 32) (leastC (rv lo) (rv hi) w w (vs.map rv)) (mostC (rv lo) (rv hi) w (-1) (vs.map rv)) 45 = L1 := ⟨_, rfl⟩
    rw [hL1] at d1 hl1 ⊢
    obtain ⟨L2, hL2⟩ : ∃ L2, (if (b1 && b3) = true then drawL L1 c1 c3 61 else L1) = L2 := ⟨_, rfl⟩
    rw [hL2]
    have hl2 : L2.length = w := by rw [← hL2]; split; rw [drawL_len]; exact hl1; exact hl1
    rw [hl2]
    generalize cellZ xm (rv lo) (rv hi) w = cm at *
    generalize okP xm (rv lo) (rv hi) w = bm at *
    obtain ⟨L3, hL3⟩ : ∃ L3, (if (bm && bm) = true then drawL L2 cm cm 124 else L2) = L3 := ⟨_, rfl⟩
    rw [hL3]
    have hl3 : L3.length = w := by rw [← hL3]; split; rw [drawL_len]; exact hl2; exact hl2
    refine ret_of_awp tab Tryz.func29 rfl rfl (Nat.le_of_ble_eq_true rfl) (fun w0 F0 => ?_)
    repeat' (first
      | (show awpL _ _ _ _ _; first | refine goL ?_ | refine clB 47 [600] (hb) tt rfl rfl rfl rfl rfl rfl leVT allB ?_ | refine cl 46 tt rfl rfl rfl (hr := hk) (k := ?_) | (refine gdLG ?_ ?_ <;> intro _ <;> try (exfalso; omega)))
      | (show awp _ _ _ _; first | refine stopA 8 tt ?_)
      | (show awp _ _ _ _; first | refine goA ?_ | (refine cdG ?_ ?_ <;> intro _ <;> try (exfalso; omega)))
      | (show andThen _ _ _ _; refine goN ?_)
      | (show inBlock _ _ _ _; refine goB ?_)
      | (show retPost _ _ _ _ _; refine finG ?_)
      | (show retPostB _ _ _ _ _ _; first | refine finB rfl rfl ?_ ?_ | refine finBT rfl rfl rfl ?_ ?_))
    refine stopOut ?_
    refine goA ?_
    refine awp_loop1 (fun (i : Nat) => ([(0, .d (rsD vs)), (3, .d (.int .i64 w)), (5, .ptr 5 0), (6, .ptr 6 0), (11, .ptr 11 0), (12, .fn 57 [.ptr 11 0]), (13, .d (.int .i64 (leastC (rv lo) (rv hi) w w ((vs.map rv).take i)))), (14, .d (.int .i64 (mostC (rv lo) (rv hi) w (-1) ((vs.map rv).take i)))), (46, .d (rsD vs)), (47, .d (.int .i64 vs.length)), (48, .d (.int .i64 i))], [(5, .box 27 ((rC lo).map V.d)), (6, .box 27 ((rC hi).map V.d)), (11, .box 64 [.own 600 0 w 5 1]), (600, .data 5 1 eB 0 (List.replicate w (32 : UInt8)))])) (fun i => i ≤ vs.length) (fun i => vs.length - i) 0 (by omega) ⟨rfl, rfl, rfl, rfl, rfl, rfl, rfl, rfl, rfl, rfl, rfl, rfl⟩ ⟨rfl, rfl, rfl, rfl, trivial⟩ (fun i hi' => ?_)
    by_cases g3 : i < vs.length
    · have hp := plot_Place (vs.getD i r0) lo hi w (getD_mem_R hv g3) hl hh (by omega) (by omega)
      have t1 := leastC_take (rv lo) (rv hi) w w (vs.map rv) (i := i) (by rw [List.length_map]; exact g3)
      have t2 := mostC_take (rv lo) (rv hi) w (-1) (vs.map rv) (i := i) (by rw [List.length_map]; exact g3)
      rw [getD_map_rv g3] at t1 t2
      rw [ifT2] at hp
      clear d1 p1 p3 pm q1 q3 qm o1 o3 hb
      cases hok : okP (rv (vs.getD i r0)) (rv lo) (rv hi) w
      · rw [hok, if_neg (by decide)] at t1 t2
        rw [hok] at hp
        repeat' (first
          | (show awpL _ _ _ _ _; first | refine goL ?_ | refine cl 14 tt rfl rfl rfl (hr := hp) (k := ?_) | (refine gdLG ?_ ?_ <;> intro _ <;> try (exfalso; omega)))
          | (show awp _ _ _ _; first | refine goA ?_ | (refine cdG ?_ ?_ <;> intro _ <;> try (exfalso; omega)))
          | (show andThen _ _ _ _; refine goN ?_)
          | (show inBlock _ _ _ _; refine goB ?_)
          | (show retPost _ _ _ _ _; refine finG ?_)
          | (show retPostB _ _ _ _ _ _; first | refine finB rfl rfl ?_ ?_ | refine finBT rfl rfl rfl ?_ ?_))
        exact ⟨i + 1, by omega, by omega, ⟨rfl, rfl, rfl, rfl, rfl, rfl, iv t1.symm, iv t2.symm, rfl, rfl, iv (by omega), rfl⟩, rfl, rfl, rfl, rfl, trivial⟩
      · rw [hok, if_pos rfl] at t1 t2
        rw [hok, if_pos rfl] at hp
        repeat' (first
          | (show awpL _ _ _ _ _; first | refine goL ?_ | refine cl 14 tt rfl rfl rfl (hr := hp) (k := ?_) | (refine gdLG ?_ ?_ <;> intro _ <;> try (exfalso; omega)))
          | (show awp _ _ _ _; first | refine goA ?_ | (refine cdG ?_ ?_ <;> intro _ <;> try (exfalso; omega)))
          | (show andThen _ _ _ _; refine goN ?_)
          | (show inBlock _ _ _ _; refine goB ?_)
          | (show retPost _ _ _ _ _; refine finG ?_)
          | (show retPostB _ _ _ _ _ _; first | refine finB rfl rfl ?_ ?_ | refine finBT rfl rfl rfl ?_ ?_))
        exact ⟨i + 1, by omega, by omega, ⟨rfl, rfl, rfl, rfl, rfl, rfl, iv t1.symm, iv t2.symm, rfl, rfl, iv (by omega), rfl⟩, rfl, rfl, rfl, rfl, trivial⟩
    · have e : (vs.map rv).take i = vs.map rv := List.take_of_length_le (by rw [List.length_map]; omega)
      rw [e]
      generalize leastC (rv lo) (rv hi) w w (vs.map rv) = le at *
      generalize mostC (rv lo) (rv hi) w (-1) (vs.map rv) = mo at *
      repeat' (first
        | (show awpL _ _ _ _ _; first | refine goL ?_ | refine clB 57 [] (d1) tt rfl rfl rfl rfl rfl rfl leVT allB ?_ | refine cl 59 tt rfl rfl rfl (hr := o1) (k := ?_) | refine cl 59 tt rfl rfl rfl (hr := o3) (k := ?_) | refine cl 58 tt rfl rfl rfl (hr := q1) (k := ?_) | refine cl 58 tt rfl rfl rfl (hr := q3) (k := ?_) | refine cl 60 tt rfl rfl rfl (hr := qm) (k := ?_) | refine cl 14 tt rfl rfl rfl (hr := p1) (k := ?_) | refine cl 14 tt rfl rfl rfl (hr := p3) (k := ?_) | (refine gdLG ?_ ?_ <;> intro _ <;> try (exfalso; omega)))
        | (show awp _ _ _ _; first | refine stopA 20 tt ?_)
        | (show awp _ _ _ _; first | refine goA ?_ | (refine cdG ?_ ?_ <;> intro _ <;> try (exfalso; omega)))
        | (show andThen _ _ _ _; refine goN ?_)
        | (show inBlock _ _ _ _; refine goB ?_)
        | (show retPost _ _ _ _ _; refine finG ?_)
        | (show retPostB _ _ _ _ _ _; first | refine finB rfl rfl ?_ ?_ | refine finBT rfl rfl rfl ?_ ?_))
      refine stopOut ?_
      refine awp_meet1 (fun (_ : Unit) => ([(3, .d (.int .i64 w)), (5, .ptr 5 0), (6, .ptr 6 0), (11, .ptr 11 0), (12, .fn 57 [.ptr 11 0]), (25, .ptr 25 0)], [(5, .box 27 ((rC lo).map V.d)), (6, .box 27 ((rC hi).map V.d)), (11, .box 64 [.own 600 0 w 5 1]), (600, .data 5 1 eB 0 L2), (25, .box 27 ((rC (rq xm)).map V.d))])) (fun _ => True) (fun _ _ => ?_) ?_
      rotate_left
      · cases hb1 : b1 && b3
        · rw [hb1, if_neg (by decide)] at hL2
          clear i1 i3 im
          cases b1 <;> cases b3
          rotate_left 3
          · cases hb1
          all_goals
            repeat' (first
              | (show awpL _ _ _ _ _; first | refine goL ?_ | (refine gdLG ?_ ?_ <;> intro _ <;> try (exfalso; omega)))
              | (show awp _ _ _ _; first | refine goA ?_ | (refine cdG ?_ ?_ <;> intro _ <;> try (exfalso; omega)))
              | (show andThen _ _ _ _; refine goN ?_)
              | (show inBlock _ _ _ _; refine goB ?_)
              | (show retPost _ _ _ _ _; refine finG ?_)
              | (show retPostB _ _ _ _ _ _; first | refine finB rfl rfl ?_ ?_ | refine finBT rfl rfl rfl ?_ ?_))
            exact ⟨(), trivial, ⟨rfl, rfl, rfl, rfl, rfl, rfl, rfl⟩, rfl, rfl, rfl, blkEq hL2, rfl, trivial⟩
        · rw [hb1, if_pos rfl] at hL2
          obtain ⟨e1, e3⟩ := Bool.and_eq_true_iff.1 hb1
          subst e1 e3
          have j1 := i1 rfl
          have j3 := i3 rfl
          have d2 := plot_draw L1 c1 c3 61 (by omega) j1.1 (by omega) (by omega) (by omega)
          rw [hl1, hL2, show (((61 : UInt8).toNat : Nat) : Int) = 61 from rfl] at d2
          clear i1 i3 im d1
          repeat' (first
            | (show awpL _ _ _ _ _; first | refine goL ?_ | refine clB 57 [] (d2) tt rfl rfl rfl rfl rfl rfl leVT allB ?_ | (refine gdLG ?_ ?_ <;> intro _ <;> try (exfalso; omega)))
            | (show awp _ _ _ _; first | refine goA ?_ | (refine cdG ?_ ?_ <;> intro _ <;> try (exfalso; omega)))
            | (show andThen _ _ _ _; refine goN ?_)
            | (show inBlock _ _ _ _; refine goB ?_)
            | (show retPost _ _ _ _ _; refine finG ?_)
            | (show retPostB _ _ _ _ _ _; first | refine finB rfl rfl ?_ ?_ | refine finBT rfl rfl rfl ?_ ?_))
          exact ⟨(), trivial, ⟨rfl, rfl, rfl, rfl, rfl, rfl, rfl⟩, rfl, rfl, rfl, rfl, rfl, trivial⟩
      · refine awp_meet1 (fun (_ : Unit) => ([(11, .ptr 11 0)], [(11, .box 64 [.own 600 0 w 5 1]), (600, .data 5 1 eB 0 L3)])) (fun _ => True) (fun _ _ => ?_) ?_
        rotate_left
        · rw [Bool.and_self] at hL3
          cases bm
          · rw [if_neg (by decide)] at hL3
            clear i1 i3 im
            repeat' (first
              | (show awpL _ _ _ _ _; first | refine goL ?_ | refine cl 14 tt rfl rfl rfl (hr := pm) (k := ?_) | (refine gdLG ?_ ?_ <;> intro _ <;> try (exfalso; omega)))
              | (show awp _ _ _ _; first | refine goA ?_ | (refine cdG ?_ ?_ <;> intro _ <;> try (exfalso; omega)))
              | (show andThen _ _ _ _; refine goN ?_)
              | (show inBlock _ _ _ _; refine goB ?_)
              | (show retPost _ _ _ _ _; refine finG ?_)
              | (show retPostB _ _ _ _ _ _; first | refine finB rfl rfl ?_ ?_ | refine finBT rfl rfl rfl ?_ ?_))
            exact ⟨(), trivial, ⟨rfl, rfl⟩, rfl, blkEq hL3, trivial⟩
          · rw [if_pos rfl] at hL3 pm
            have jm := im rfl
            have d3 := plot_draw L2 cm cm 124 (by omega) jm.1 (by omega) (by omega) (by omega)
            rw [hl2, hL3, show (((124 : UInt8).toNat : Nat) : Int) = 124 from rfl] at d3
            clear i1 i3 im d1
            repeat' (first
              | (show awpL _ _ _ _ _; first | refine goL ?_ | refine clB 57 [] (d3) tt rfl rfl rfl rfl rfl rfl leVT allB ?_ | refine cl 14 tt rfl rfl rfl (hr := pm) (k := ?_) | (refine gdLG ?_ ?_ <;> intro _ <;> try (exfalso; omega)))
              | (show awp _ _ _ _; first | refine goA ?_ | (refine cdG ?_ ?_ <;> intro _ <;> try (exfalso; omega)))
              | (show andThen _ _ _ _; refine goN ?_)
              | (show inBlock _ _ _ _; refine goB ?_)
              | (show retPost _ _ _ _ _; refine finG ?_)
              | (show retPostB _ _ _ _ _ _; first | refine finB rfl rfl ?_ ?_ | refine finBT rfl rfl rfl ?_ ?_))
            exact ⟨(), trivial, ⟨rfl, rfl⟩, rfl, rfl, trivial⟩
        · have hcut : cut 0 w L3 = L3 := by
            have := cut_all L3
            rwa [hl3] at this
          have hcl2 : (cut 0 w L3).length = w := by rw [hcut]; exact hl3
          repeat' (first
            | (show awpL _ _ _ _ _; first | refine goL ?_ | (refine gdLG ?_ ?_ <;> intro _ <;> try (exfalso; omega)))
            | (show awp _ _ _ _; first | refine goA ?_ | (refine cdG ?_ ?_ <;> intro _ <;> try (exfalso; omega)))
            | (show andThen _ _ _ _; refine goN ?_)
            | (show inBlock _ _ _ _; refine goB ?_)
            | (show retPost _ _ _ _ _; refine finG ?_)
            | (show retPostB _ _ _ _ _ _; first | refine finB rfl rfl ?_ ?_ | refine finBT rfl rfl rfl ?_ ?_))
          all_goals rw [hcut]
  · rw [if_neg he]
    generalize chk vs.length (rv lo) (rv hi) c 1 = e at *
    refine ret_of_awp tab Tryz.func29 rfl rfl (Nat.le_of_ble_eq_true rfl) (fun w0 F0 => ?_)
    repeat' (first
      | (show awpL _ _ _ _ _; first | refine goL ?_ | refine cl 46 tt rfl rfl rfl (hr := hk) (k := ?_) | (refine gdLG ?_ ?_ <;> intro _ <;> try (exfalso; omega)))
      | (show awp _ _ _ _; first | refine goA ?_ | (refine cdG ?_ ?_ <;> intro _ <;> try (exfalso; omega)))
      | (show andThen _ _ _ _; refine goN ?_)
      | (show inBlock _ _ _ _; refine goB ?_)
      | (show retPost _ _ _ _ _; refine finG ?_)
      | (show retPostB _ _ _ _ _ _; first | refine finB rfl rfl ?_ ?_ | refine finBT rfl rfl rfl ?_ ?_))
    all_goals rfl
end Go.Proofs.YtoppaphffnojdaaGreat
