/-
  A statement of the seat: what its contract is, and the claim. Conditions: as each says.
-/
import Derived.Test.YtoppaphffnojdaaGreatW29
import Derived.Test.YtoppaphffnojdaaGreatS42
import Derived.Test.YtoppaphffnojdaaGreatPlotsF
import Derived.Test.YtoppaphffnojdaaGreatN18
import Derived.Test.YtoppaphffnojdaaGreatA10
set_option linter.unusedVariables false
set_option linter.unusedSimpArgs false
set_option maxHeartbeats 16000000
namespace Go.Proofs.YtoppaphffnojdaaGreat
open Go.Vw
attribute [local irreducible] awp awpL awpR

theorem plot_BoxQ (vs : List Rat) (lo hi : Rat) (w : Nat) (h1 : 1 ≤ vs.length) (h2 : vs.length ≤ 64) (hvs : ∀ q ∈ vs, okQ 100 q) (hl : okQ 100 lo) (hh : okQ 100 hi) (hlt : lo < hi) (w1 : 1 ≤ w) (w2 : w ≤ 100) : Ret Tryz.prog 29 [qsD vs, qD lo, qD hi, .int .i64 w] (· = .tup [.str (boxB lo hi w vs ++ [10]), .int .i64 0]) := by
  have h := plot_Box (vs.map rq) (rq lo) (rq hi) w (by rw [List.length_map]; omega) (fun _ r hr => by
    obtain ⟨q, hq, rfl⟩ := List.mem_map.1 hr
    exact ok_rq (hvs q hq)) (ok_rq hl) (ok_rq hh) (by omega) (by omega)
  rw [List.length_map, rv_rq, rv_rq, map_rv_rq] at h
  have hc : chk vs.length lo hi w 1 = 0 := by
    unfold chk
    rw [if_neg (by omega), if_neg]
    intro hx
    rcases hx with hx | hx
    · exact hx hlt
    · omega
  rw [if_pos hc, Int.toNat_natCast] at h
  exact h.args (LeT.cons (leRsQs vs) (LeT.refl _))
theorem law40_move (x b c : Rat) (hx : okQ 100 x) (hb : okQ 100 b) (hc : okQ 100 c) : Ret Tryz.prog 28 [qD x, qD b, qD c] (· = qD (mvQ b c x)) := by
  have m1 := ref03_MulQ c x (hc.mono (by decide)) (hx.mono (by decide))
  have a1 := ref03_AddQ b (c * x) (hb.mono (by decide)) ((hc.mul hx).mono (by decide))
  unfold mvQ
  generalize b + c * x = z at *
  generalize c * x = y at *
  refine ret_of_awp tab Tryz.func28 rfl rfl (Nat.le_of_ble_eq_true rfl) (fun w0 F0 => ?_)
  repeat' (first
    | (show awpL _ _ _ _ _; first | refine goL ?_ | refine cl 41 tt rfl rfl rfl (hr := m1) (k := ?_) | refine cl 56 tt rfl rfl rfl (hr := a1) (k := ?_) | (refine gdLG ?_ ?_ <;> intro _ <;> try (exfalso; omega)))
    | (show awp _ _ _ _; first | refine goA ?_ | refine rg 1 4 ?_ | (refine cdG ?_ ?_ <;> intro _ <;> try (exfalso; omega)))
    | (show andThen _ _ _ _; refine goN ?_)
    | (show inBlock _ _ _ _; refine goB ?_)
    | (show awpR _ _ _ _ _ _ _; first | refine goR ?_ | refine clR 41 tt rfl rfl rfl (hr := m1) (k := ?_) | refine clR 56 tt rfl rfl rfl (hr := a1) (k := ?_) | (refine gdRG ?_ ?_ <;> intro _ <;> try (exfalso; omega)))
    | (show retPost _ _ _ _ _; refine finG ?_)
    | (show retPostB _ _ _ _ _ _; first | refine finB rfl rfl ?_ ?_ | refine finBT rfl rfl rfl ?_ ?_))
  rfl
theorem moves_true (l : List Int) (hl : l.length ≤ 9223372036854775807) (hx : I64 l) : Ret Tryz.prog 6 [i64s l] (· = .bool true) := by
  have aw := law40_awake
  obtain ⟨m, m1, m2, hN0⟩ := world_New l hl hx
  have hN : RetB Tryz.prog 10 [.d (i64s l)] (lookB []) (.ptr 1000 0) (lookB [(1000, tp m 0)]) := hN0.ren [(10, 1000)]
  clear hN0
  obtain ⟨vs, a1, v1, v2, v3, q1, hV⟩ := world_Values m 0 9 m1 m2 (by omega) (by decide) (by decide)
  obtain ⟨b, a2, b1, q2, hR⟩ := world_Rat m a1 m1 m2 q1
  obtain ⟨r1, a3, r1a, r1b, q3, hX1⟩ := world_Next m a2 5 m1 m2 q2 (by decide) (by decide)
  obtain ⟨r2, a4, r2a, r2b, q4, hX2⟩ := world_Next m a3 3 m1 m2 q3 (by decide) (by decide)
  obtain ⟨r3, a5, r3a, r3b, q5, hX3⟩ := world_Next m a4 9 m1 m2 q4 (by decide) (by decide)
  obtain ⟨r4, a6, r4a, r4b, q6, hX4⟩ := world_Next m a5 40 m1 m2 q5 (by decide) (by decide)
  have fr := ref03_Fraction (1 + r1) (1 + r2) (by omega) (by omega) (by omega) (by omega) (by omega)
  have okc : okQ 10 (Rat.divInt (1 + r1) (1 + r2)) := ok_frac (by omega) (by omega) (by omega)
  have hcp : 0 < Rat.divInt (1 + r1) (1 + r2) := by
    rw [Rat.divInt_eq_div]
    have h1 : (0 : Rat) < ((1 + r1 : Int) : Rat) := by
      have : ((0 : Int) : Rat) < ((1 + r1 : Int) : Rat) := Rat.intCast_lt_intCast.2 (by omega)
      exact this
    have h2 : (0 : Rat) < ((1 + r2 : Int) : Rat) := by
      have : ((0 : Int) : Rat) < ((1 + r2 : Int) : Rat) := Rat.intCast_lt_intCast.2 (by omega)
      exact this
    rw [Rat.div_def]
    exact Rat.mul_pos h1 (Rat.inv_pos.2 h2)
  have f1 := ref03_FromIntW (-5) (by decide) (by decide)
  have f2 := ref03_FromIntW (r3 - 4) (by omega) (by omega)
  have k1 : okQ 10 ((-5 : Int) : Rat) := ok_intW (by decide)
  have k2 : okQ 10 ((r3 - 4 : Int) : Rat) := ok_intW (by omega)
  have hlt : ((-5 : Int) : Rat) < ((r3 - 4 : Int) : Rat) := Rat.intCast_lt_intCast.2 (by omega)
  generalize ((-5 : Int) : Rat) = lo at *
  generalize ((r3 - 4 : Int) : Rat) = hi at *
  generalize Rat.divInt (1 + r1) (1 + r2) = c at *
  obtain ⟨w, hw⟩ : ∃ w : Nat, 1 + r4 = w := ⟨(1 + r4).toNat, by omega⟩
  have kv : ∀ q ∈ vs, okQ 100 q := fun q hq => (v3 q hq).mono (by decide)
  have kmv : ∀ x, okQ 10 x → okQ 100 (mvQ b c x) := fun x hx' => (b1.add (okc.mul hx')).mono (by decide)
  have ku : ∀ q ∈ vs.map (mvQ b c), okQ 100 q := fun q hq => by
    obtain ⟨x, hx', rfl⟩ := List.mem_map.1 hq
    exact kmv x (v3 x hx')
  have s1 := plot_StripQ vs lo hi w v1 (by omega) kv (k1.mono (by decide)) (k2.mono (by decide)) hlt (by omega) (by omega)
  have s2 := plot_StripQ (vs.map (mvQ b c)) (mvQ b c lo) (mvQ b c hi) w (by rw [List.length_map]; omega) (by rw [List.length_map]; omega) ku (kmv lo k1) (kmv hi k2) ((mv_lt hcp).2 hlt) (by omega) (by omega)
  rw [mv_counts hcp _ hlt] at s2
  have x1 := plot_BoxQ vs lo hi w v1 (by omega) kv (k1.mono (by decide)) (k2.mono (by decide)) hlt (by omega) (by omega)
  have x2 := plot_BoxQ (vs.map (mvQ b c)) (mvQ b c lo) (mvQ b c hi) w (by rw [List.length_map]; omega) (by rw [List.length_map]; omega) ku (kmv lo k1) (kmv hi k2) ((mv_lt hcp).2 hlt) (by omega) (by omega)
  rw [mv_box hcp _ hlt (by omega)] at x2
  have mlo := law40_move lo b c (k1.mono (by decide)) (b1.mono (by decide)) (okc.mono (by decide))
  have mhi := law40_move hi b c (k2.mono (by decide)) (b1.mono (by decide)) (okc.mono (by decide))
  generalize lineB (countsZ lo hi w vs) ++ [10] = sa at *
  generalize boxB lo hi w vs ++ [10] = sb at *
  rw [← hw] at s1 s2 x1 x2
  clear hw kmv ku
  refine ret_of_awp tab Tryz.func6 rfl rfl (Nat.le_of_ble_eq_true rfl) (fun w0 F0 => ?_)
  repeat' (first
    | (show awpL _ _ _ _ _; first | refine goL ?_ | refine clB 10 [1000] (hN) tt rfl rfl rfl rfl rfl rfl leVT allB ?_ | refine clB 16 [] (hV) tt rfl rfl rfl rfl rfl rfl leVT allB ?_ | refine clB 26 [] (hR) tt rfl rfl rfl rfl rfl rfl leVT allB ?_ | refine clB 18 [] (hX1) tt rfl rfl rfl rfl rfl rfl leVT allB ?_ | refine clB 18 [] (hX2) tt rfl rfl rfl rfl rfl rfl leVT allB ?_ | refine clB 18 [] (hX3) tt rfl rfl rfl rfl rfl rfl leVT allB ?_ | refine cl 27 tt rfl rfl rfl (hr := fr) (k := ?_) | refine cl 17 tt rfl rfl rfl (hr := f1) (k := ?_) | refine cl 17 tt rfl rfl rfl (hr := f2) (k := ?_) | (refine gdLG ?_ ?_ <;> intro _ <;> try (exfalso; omega)))
    | (show awp _ _ _ _; first | refine stopA 7 tt ?_)
    | (show awp _ _ _ _; first | refine goA ?_ | refine rg 13 15 ?_ | refine rg 15 15 ?_ | (refine cdG ?_ ?_ <;> intro _ <;> try (exfalso; omega)))
    | (show andThen _ _ _ _; refine goN ?_)
    | (show inBlock _ _ _ _; refine goB ?_)
    | (show awpR _ _ _ _ _ _ _; first | refine goR ?_ | refine clR 27 tt rfl rfl rfl (hr := fr) (k := ?_) | refine clR 17 tt rfl rfl rfl (hr := f1) (k := ?_) | refine clR 17 tt rfl rfl rfl (hr := f2) (k := ?_) | (refine gdRG ?_ ?_ <;> intro _ <;> try (exfalso; omega)))
    | (show retPost _ _ _ _ _; refine finG ?_)
    | (show retPostB _ _ _ _ _ _; first | refine finB rfl rfl ?_ ?_ | refine finBT rfl rfl rfl ?_ ?_))
  refine stopOut ?_
  refine goA ?_
  refine awp_adopt 9 700 27 3 qC 0 rfl ?_
  refine awp_loop1 (fun (k : Nat) => ([(3, .ptr 1000 0), (4, .d (qsD vs)), (5, .ptr 5 0), (6, .ptr 6 0), (7, .ptr 7 0), (8, .ptr 8 0), (9, .own 700 0 k 27 3), (39, .d (qsD vs)), (40, .d (.int .i64 vs.length)), (41, .d (.int .i64 k))], [(5, .box 27 ((rC (rq b)).map V.d)), (6, .box 27 ((rC (rq c)).map V.d)), (7, .box 27 ((rC (rq lo)).map V.d)), (8, .box 27 ((rC (rq hi)).map V.d)), (1000, tp m a5), (700, qB ((vs.map (mvQ b c)).take k))])) (fun k => k ≤ vs.length) (fun k => vs.length - k) 0 (by omega) ⟨rfl, rfl, rfl, rfl, rfl, rfl, rfl, rfl, rfl, rfl, rfl⟩ ⟨rfl, rfl, rfl, rfl, rfl, rfl, trivial⟩ (fun k hk => ?_)
  have hlen : ((vs.map (mvQ b c)).take k).length = k := by rw [List.length_take, List.length_map]; omega
  by_cases h3 : k < vs.length
  · have mv := law40_move (vs.getD k 0) b c (getD_ok kv h3) (b1.mono (by decide)) (okc.mono (by decide))
    have e : (vs.map (mvQ b c)).take k ++ [mvQ b c (vs.getD k 0)] = (vs.map (mvQ b c)).take (k + 1) := by
      rw [List.take_add_one]
      simp [List.getD_eq_getElem?_getD, h3]
    clear hN hV hR hX1 hX2 hX3 hX4 s1 s2 x1 x2 mlo mhi fr f1 f2 aw
    repeat' (first
      | (show awpL _ _ _ _ _; first | refine goL ?_ | refine cl 28 tt rfl rfl rfl (hr := mv) (k := ?_) | (refine gdLG ?_ ?_ <;> intro _ <;> try (exfalso; omega)))
      | (show awp _ _ _ _; first | refine goA ?_ | refine rg 13 15 ?_ | refine rg 15 15 ?_ | (refine cdG ?_ ?_ <;> intro _ <;> try (exfalso; omega)))
      | (show andThen _ _ _ _; refine goN ?_)
      | (show inBlock _ _ _ _; refine goB ?_)
      | (show awpR _ _ _ _ _ _ _; first | refine goR ?_ | refine clR 28 tt rfl rfl rfl (hr := mv) (k := ?_) | (refine gdRG ?_ ?_ <;> intro _ <;> try (exfalso; omega)))
      | (show retPost _ _ _ _ _; refine finG ?_)
      | (show retPostB _ _ _ _ _ _; first | refine finB rfl rfl ?_ ?_ | refine finBT rfl rfl rfl ?_ ?_))
    exact ⟨k + 1, by omega, by omega, ⟨rfl, rfl, rfl, rfl, rfl, rfl, ownEq (by rw [List.length_append, hlen]; rfl), rfl, rfl, iv (by omega), rfl⟩, rfl, rfl, rfl, rfl, rfl, blkEq e, trivial⟩
  · have e : (vs.map (mvQ b c)).take k = vs.map (mvQ b c) := List.take_of_length_le (by rw [List.length_map]; omega)
    rw [e] at hlen ⊢
    have ecut : cut 0 k (vs.map (mvQ b c)) = vs.map (mvQ b c) := by
      have := cut_all (vs.map (mvQ b c))
      rwa [hlen] at this
    generalize vs.map (mvQ b c) = us at *
    repeat' (first
      | (show awpL _ _ _ _ _; first | refine goL ?_ | refine clB 18 [] (hX4) tt rfl rfl rfl rfl rfl rfl leVT allB ?_ | (refine gdLG ?_ ?_ <;> intro _ <;> try (exfalso; omega)))
      | (show awp _ _ _ _; first | refine stopA 12 tt ?_)
      | (show awp _ _ _ _; first | refine goA ?_ | refine rg 13 15 ?_ | refine rg 15 15 ?_ | (refine cdG ?_ ?_ <;> intro _ <;> try (exfalso; omega)))
      | (show andThen _ _ _ _; refine goN ?_)
      | (show inBlock _ _ _ _; refine goB ?_)
      | (show awpR _ _ _ _ _ _ _; first | refine goR ?_ | (refine gdRG ?_ ?_ <;> intro _ <;> try (exfalso; omega)))
      | (show retPost _ _ _ _ _; refine finG ?_)
      | (show retPostB _ _ _ _ _ _; first | refine finB rfl rfl ?_ ?_ | refine finBT rfl rfl rfl ?_ ?_))
    refine stopOut ?_
    refine awp_frz 700 rfl ?_
    refine awp_slots [(4, .d (qsD vs)), (5, .ptr 5 0), (6, .ptr 6 0), (7, .ptr 7 0), (8, .ptr 8 0), (9, .d (qsD us)), (12, .d (.int .i64 (1 + r4)))] [(5, .box 27 ((rC (rq b)).map V.d)), (6, .box 27 ((rC (rq c)).map V.d)), (7, .box 27 ((rC (rq lo)).map V.d)), (8, .box 27 ((rC (rq hi)).map V.d))] ⟨rfl, rfl, rfl, rfl, rfl, qdEq ecut, rfl, rfl⟩ ⟨rfl, rfl, rfl, rfl, trivial⟩ ?_
    repeat' (first
      | (show awpL _ _ _ _ _; first | refine goL ?_ | refine cl 19 tt rfl rfl rfl (hr := s1) (k := ?_) | refine cl 28 tt rfl rfl rfl (hr := mlo) (k := ?_) | refine cl 28 tt rfl rfl rfl (hr := mhi) (k := ?_) | refine cl 19 tt rfl rfl rfl (hr := s2) (k := ?_) | refine cl 29 tt rfl rfl rfl (hr := x1) (k := ?_) | refine cl 29 tt rfl rfl rfl (hr := x2) (k := ?_) | refine cl 9 tt rfl rfl rfl (hr := aw) (k := ?_) | (refine gdLG ?_ ?_ <;> intro _ <;> try (exfalso; omega)))
      | (show awp _ _ _ _; first | refine goA ?_ | refine rg 13 15 ?_ | refine rg 15 15 ?_ | (refine cdG ?_ ?_ <;> intro _ <;> try (exfalso; omega)))
      | (show andThen _ _ _ _; refine goN ?_)
      | (show inBlock _ _ _ _; refine goB ?_)
      | (show awpR _ _ _ _ _ _ _; first | refine goR ?_ | refine clR 19 tt rfl rfl rfl (hr := s1) (k := ?_) | refine clR 28 tt rfl rfl rfl (hr := mlo) (k := ?_) | refine clR 28 tt rfl rfl rfl (hr := mhi) (k := ?_) | refine clR 19 tt rfl rfl rfl (hr := s2) (k := ?_) | refine clR 29 tt rfl rfl rfl (hr := x1) (k := ?_) | refine clR 29 tt rfl rfl rfl (hr := x2) (k := ?_) | refine clR 9 tt rfl rfl rfl (hr := aw) (k := ?_) | (refine gdRG ?_ ?_ <;> intro _ <;> try (exfalso; omega)))
      | (show retPost _ _ _ _ _; refine finG ?_)
      | (show retPostB _ _ _ _ _ _; first | refine finB rfl rfl ?_ ?_ | refine finBT rfl rfl rfl ?_ ?_))
    all_goals first | rfl | (rename_i hc; exact absurd rfl hc)
end Go.Proofs.YtoppaphffnojdaaGreat
