/-
  A statement of the seat: what its contract is, and the claim. Conditions: as each says.
-/
import Derived.Test.YtoppaphffnojdaaGreatW25
import Derived.Test.YtoppaphffnojdaaGreatPlotsE
import Derived.Test.YtoppaphffnojdaaGreatA10
set_option linter.unusedVariables false
set_option linter.unusedSimpArgs false
set_option maxHeartbeats 8000000
namespace Go.Proofs.YtoppaphffnojdaaGreat
open Go.Vw
attribute [local irreducible] awp awpL awpR

theorem chk_zero {n : Nat} {lo hi : Rat} {w h : Int} (e : chk n lo hi w h = 0) : 1 ≤ n ∧ n ≤ 64 ∧ lo < hi ∧ 1 ≤ w ∧ w ≤ 100 ∧ 1 ≤ h ∧ h ≤ 50 := by
  unfold chk at e
  split at e
  · exact absurd e (by decide)
  · split at e
    · exact absurd e (by decide)
    · rename_i n1 n2
      have k1 : lo < hi := Classical.byContradiction fun h => n2 (.inl h)
      have k2 : ¬ (w < 1 ∨ 100 < w ∨ h < 1 ∨ 50 < h) := fun h => n2 (.inr h)
      refine ⟨by omega, by omega, k1, by omega, by omega, by omega, by omega⟩
theorem mul_bd {n : Int} {w : Nat} {k : Int} (h0 : 0 ≤ n) (h : n ≤ k) (hw : w ≤ 100) (hk : k ≤ 64) : 0 ≤ n * w ∧ n * w ≤ 6400 := by
  have h1 : n * w ≤ 64 * w := Int.mul_le_mul_of_nonneg_right (by omega) (by omega)
  have h2 := Int.mul_nonneg h0 (show (0 : Int) ≤ w by omega)
  omega
theorem plot_Histogram (vs : List R3) (lo hi : R3) (b c : Int) (hn : vs.length < 9223372036854775807) (hvs : vs.length ≤ 64 → ∀ r ∈ vs, RatOk r 100) (hl : RatOk lo 100) (hh : RatOk hi 100) (h1 : -9223372036854775808 ≤ c) (h2 : c < 9223372036854775808) (h3 : -9223372036854775808 ≤ b) (h4 : b < 9223372036854775808) : Ret Tryz.prog 62 [rsD vs, rD lo, rD hi, .int .i64 b, .int .i64 c] (· = if chk vs.length (rv lo) (rv hi) c b = 0 then .tup [.str (histB (mostZ (countsZ (rv lo) (rv hi) b (vs.map rv))) c.toNat (countsZ (rv lo) (rv hi) b (vs.map rv))), .int .i64 0] else .tup [.str [], .int .i64 (chk vs.length (rv lo) (rv hi) c b)]) := by
  have hk := plot_check vs lo hi c b hn hl hh
  by_cases he : chk vs.length (rv lo) (rv hi) c b = 0
  · rw [if_pos he]
    rw [he] at hk
    obtain ⟨n1, n2, _, n4, n5, n6, n7⟩ := chk_zero he
    obtain ⟨w, rfl⟩ : ∃ w : Nat, c = w := ⟨c.toNat, by omega⟩
    obtain ⟨m, rfl⟩ : ∃ m : Nat, b = m := ⟨b.toNat, by omega⟩
    rw [Int.toNat_natCast]
    have hb0 := plot_blanks w (by omega)
    have hb : RetB Tryz.prog 47 [.d (.int .i64 w)] (lookB []) (.own 600 0 w 5 1) (lookB [(600, .data 5 1 eB 0 (List.replicate w (32 : UInt8)))]) := hb0.ren [(6, 600)]
    have hcn := plot_counts vs lo hi m (by omega) (hvs (by omega)) hl hh (by omega)
    have hbd := counts_bd (rv lo) (rv hi) m (vs.map rv)
    have hcl := counts_len (rv lo) (rv hi) m (vs.map rv)
    rw [List.length_map] at hbd
    rw [Int.toNat_natCast] at hcl
    generalize countsZ (rv lo) (rv hi) m (vs.map rv) = cz at *
    clear he hb0
    have hmb := mostZ_bd (l := cz) (k := 64) (by decide) (fun x hx => by have := hbd x hx; omega)
    have hmm : ∀ x ∈ cz, 0 ≤ x ∧ x ≤ mostZ cz := fun x hx => ⟨(hbd x hx).1, foldl_max_mem cz 0 x hx⟩
    have hbar : ∀ n ∈ cz, barZ (mostZ cz) w n ≤ w := fun n hn => barZ_le (hmm n hn).1 (hmm n hn).2
    have hlen : ∀ i, i ≤ m → (histB (mostZ cz) w (cz.take i)).length = i * (w + 1) := fun i hi => by
      rw [histB_len (fun x hx => hmm x (List.mem_of_mem_take hx)), List.length_take, show min i cz.length = i by omega]
    refine ret_of_awp tab Tryz.func62 rfl rfl (Nat.le_of_ble_eq_true rfl) (fun w0 F0 => ?_)
    repeat' (first
      | (show awpL _ _ _ _ _; first | refine goL ?_ | refine cl 46 tt rfl rfl rfl (hr := hk) (k := ?_) | refine cl 48 tt rfl rfl rfl (hr := hcn) (k := ?_) | (refine gdLG ?_ ?_ <;> intro _ <;> try (exfalso; omega)))
      | (show awp _ _ _ _; first | refine stopA 7 tt ?_)
      | (show awp _ _ _ _; first | refine goA ?_ | (refine cdG ?_ ?_ <;> intro _ <;> try (exfalso; omega)))
      | (show andThen _ _ _ _; refine goN ?_)
      | (show inBlock _ _ _ _; refine goB ?_)
      | (show retPost _ _ _ _ _; refine finG ?_)
      | (show retPostB _ _ _ _ _ _; first | refine finB rfl rfl ?_ ?_ | refine finBT rfl rfl rfl ?_ ?_))
    refine stopOut ?_
    refine goA ?_
    refine awp_loop1 (fun (i : Nat) => ([(4, .d (.int .i64 w)), (13, .d (i64s cz)), (14, .d (.int .i64 (mostZ (cz.take i)))), (36, .d (i64s cz)), (37, .d (.int .i64 m)), (38, .d (.int .i64 i))], [])) (fun i => i ≤ m) (fun i => m - i) 0 (by omega) ⟨rfl, rfl, rfl, rfl, by rw [← hcl]; rfl, rfl, rfl⟩ trivial (fun i hi' => ?_)
    have htb := mostZ_bd (l := cz.take i) (k := 64) (by decide) (fun x hx => by have := hbd x (List.mem_of_mem_take hx); omega)
    by_cases c1 : i < m
    · have hg := getD_bd hbd (show i < cz.length by omega)
      have ht := mostZ_take cz i (by omega)
      repeat' (first
        | (show awpL _ _ _ _ _; first | refine goL ?_ | (refine gdLG ?_ ?_ <;> intro _ <;> try (exfalso; omega)))
        | (show awp _ _ _ _; first | refine goA ?_ | (refine cdG ?_ ?_ <;> intro _ <;> try (exfalso; omega)))
        | (show andThen _ _ _ _; refine goN ?_)
        | (show inBlock _ _ _ _; refine goB ?_)
        | (show retPost _ _ _ _ _; refine finG ?_)
        | (show retPostB _ _ _ _ _ _; first | refine finB rfl rfl ?_ ?_ | refine finBT rfl rfl rfl ?_ ?_))
      exact ⟨i + 1, by omega, by omega, ⟨rfl, rfl, iv ht.symm, rfl, rfl, iv (by omega), rfl⟩, trivial⟩
    · have e : cz.take i = cz := List.take_of_length_le (by omega)
      rw [e]
      clear htb
      generalize mostZ cz = mo at *
      repeat' (first
        | (show awpL _ _ _ _ _; first | refine goL ?_ | (refine gdLG ?_ ?_ <;> intro _ <;> try (exfalso; omega)))
        | (show awp _ _ _ _; first | refine stopA 13 tt ?_)
        | (show awp _ _ _ _; first | refine goA ?_ | (refine cdG ?_ ?_ <;> intro _ <;> try (exfalso; omega)))
        | (show andThen _ _ _ _; refine goN ?_)
        | (show inBlock _ _ _ _; refine goB ?_)
        | (show retPost _ _ _ _ _; refine finG ?_)
        | (show retPostB _ _ _ _ _ _; first | refine finB rfl rfl ?_ ?_ | refine finBT rfl rfl rfl ?_ ?_))
      refine stopOut ?_
      refine goA ?_
      refine awp_adopt 17 700 5 1 eB 0 rfl ?_
      refine awp_loop1 (fun (i : Nat) => ([(4, .d (.int .i64 w)), (14, .d (.int .i64 mo)), (17, .own 700 0 (i * (w + 1)) 5 1), (46, .d (i64s cz)), (47, .d (.int .i64 m)), (48, .d (.int .i64 i))], [(700, .data 5 1 eB 0 (histB mo w (cz.take i)))])) (fun i => i ≤ m) (fun i => m - i) 0 (by omega) ⟨rfl, rfl, ownEq (by omega), rfl, by rw [← hcl]; rfl, rfl, rfl⟩ ⟨rfl, trivial⟩ (fun i hi' => ?_)
      have hl1 := hlen i hi'
      have hsz : i * (w + 1) ≤ 64 * 101 := Nat.mul_le_mul (by omega) (by omega)
      by_cases c2 : i < m
      · have hg := getD_bd hbd (show i < cz.length by omega)
        have hmem : cz.getD i 0 ∈ cz := by rw [List.getD_eq_getElem?_getD, List.getElem?_eq_getElem (show i < cz.length by omega)]; exact List.getElem_mem _
        have hmx := (hmm _ hmem).2
        have hbr := hbar _ hmem
        have ht := histB_take mo w cz i (by omega)
        have hl2 := hlen (i + 1) (by omega)
        have hw := mul_bd hg.1 (show cz.getD i 0 ≤ 64 by omega) (show w ≤ 100 by omega) (by decide)
        unfold barZ at hbr ht
        clear hmm hbd hbar hlen hmem
        generalize hnn : cz.getD i 0 = n at *
        generalize histB mo w (cz.take i) = hb1 at *
        obtain ⟨hb2, hhb2⟩ : ∃ hb2, histB mo w (cz.take (i + 1)) = hb2 := ⟨_, rfl⟩
        rw [hhb2] at ht hl2
        obtain ⟨bar, hbe⟩ : ∃ bar, (if 0 < mo then (n * ↑w / mo).toNat else 0) = bar := ⟨_, rfl⟩
        rw [hbe] at hbr ht
        have hbc : 0 < mo → ((bar : Int) = n * ↑w / mo) := fun h => by
          rw [if_pos h] at hbe
          have := Int.ediv_nonneg hw.1 (Int.le_of_lt h)
          omega
        have hb0' : ¬ 0 < mo → bar = 0 := fun h => by rw [if_neg h] at hbe; exact hbe.symm
        clear hbe
        repeat' (first
          | (show awpL _ _ _ _ _; first | refine goL ?_ | refine clB 47 [600] (hb) tt rfl rfl rfl rfl rfl rfl leVT allB ?_ | (refine gdLG ?_ ?_ <;> intro _ <;> try (exfalso; omega)))
          | (show awp _ _ _ _; first | refine stopA 17 tt ?_)
          | (show awp _ _ _ _; first | refine goA ?_ | (refine cdG ?_ ?_ <;> intro _ <;> try (exfalso; omega)))
          | (show andThen _ _ _ _; refine goN ?_)
          | (show inBlock _ _ _ _; refine goB ?_)
          | (show retPost _ _ _ _ _; refine finG ?_)
          | (show retPostB _ _ _ _ _ _; first | refine finB rfl rfl ?_ ?_ | refine finBT rfl rfl rfl ?_ ?_))
        refine stopOut ?_
        refine goA ?_
        refine awp_loop1 (fun (j : Nat) => ([(4, .d (.int .i64 w)), (14, .d (.int .i64 mo)), (17, .own 700 0 (i * (w + 1)) 5 1), (19, .d (.int .i64 n)), (20, .own 600 0 w 5 1), (21, .d (.int .i64 j)), (46, .d (i64s cz)), (47, .d (.int .i64 m)), (48, .d (.int .i64 i))], [(700, .data 5 1 eB 0 hb1), (600, .data 5 1 eB 0 (barB j w))])) (fun j => j ≤ bar) (fun j => bar - j) 0 (by omega) ⟨rfl, rfl, rfl, iv hnn, rfl, rfl, rfl, rfl, rfl, rfl⟩ ⟨rfl, blkEq (by simp [barB]), trivial⟩ (fun j hj => ?_)
        have hbl := barB_len (b := j) (w := w) (by omega)
        by_cases c3 : j < bar
        · have hm : 0 < mo := Classical.byContradiction fun h => by have := hb0' h; omega
          have hq := hbc hm
          clear hbc hb0'
          repeat' (first
            | (show awpL _ _ _ _ _; first | refine goL ?_ | (refine gdLG ?_ ?_ <;> intro _ <;> try (exfalso; omega)))
            | (show awp _ _ _ _; first | refine goA ?_ | (refine cdG ?_ ?_ <;> intro _ <;> try (exfalso; omega)))
            | (show andThen _ _ _ _; refine goN ?_)
            | (show inBlock _ _ _ _; refine goB ?_)
            | (show retPost _ _ _ _ _; refine finG ?_)
            | (show retPostB _ _ _ _ _ _; first | refine finB rfl rfl ?_ ?_ | refine finBT rfl rfl rfl ?_ ?_))
          exact ⟨j + 1, by omega, by omega, ⟨rfl, rfl, rfl, rfl, rfl, iv (by omega), rfl, rfl, rfl, rfl⟩, rfl, blkEq (barB_set (by omega)), trivial⟩
        · have hjb : j = bar := by omega
          subst hjb
          have hcut : cut 0 w (barB j w) = barB j w := by
            have := cut_all (barB j w)
            rwa [hbl] at this
          have hcl2 : (cut 0 w (barB j w)).length = w := by rw [hcut]; exact hbl
          have hfin : hb1 ++ cut 0 w (barB j w) ++ [10] = hb2 := by rw [hcut, ht, List.append_assoc]
          have hll : (hb1 ++ cut 0 w (barB j w) ++ [10]).length = (i + 1) * (w + 1) := by rw [hfin]; exact hl2
          clear hcut
          by_cases hm : 0 < mo
          · have hq := hbc hm
            clear hbc hb0'
            repeat' (first
              | (show awpL _ _ _ _ _; first | refine goL ?_ | (refine gdLG ?_ ?_ <;> intro _ <;> try (exfalso; omega)))
              | (show awp _ _ _ _; first | refine goA ?_ | (refine cdG ?_ ?_ <;> intro _ <;> try (exfalso; omega)))
              | (show andThen _ _ _ _; refine goN ?_)
              | (show inBlock _ _ _ _; refine goB ?_)
              | (show retPost _ _ _ _ _; refine finG ?_)
              | (show retPostB _ _ _ _ _ _; first | refine finB rfl rfl ?_ ?_ | refine finBT rfl rfl rfl ?_ ?_))
            all_goals exact ⟨i + 1, by omega, by omega, ⟨rfl, rfl, ownEq hll, rfl, rfl, iv (by omega), rfl⟩, blkEq (hfin.trans hhb2.symm), trivial⟩
          · clear hbc hb0'
            repeat' (first
              | (show awpL _ _ _ _ _; first | refine goL ?_ | (refine gdLG ?_ ?_ <;> intro _ <;> try (exfalso; omega)))
              | (show awp _ _ _ _; first | refine goA ?_ | (refine cdG ?_ ?_ <;> intro _ <;> try (exfalso; omega)))
              | (show andThen _ _ _ _; refine goN ?_)
              | (show inBlock _ _ _ _; refine goB ?_)
              | (show retPost _ _ _ _ _; refine finG ?_)
              | (show retPostB _ _ _ _ _ _; first | refine finB rfl rfl ?_ ?_ | refine finBT rfl rfl rfl ?_ ?_))
            all_goals exact ⟨i + 1, by omega, by omega, ⟨rfl, rfl, ownEq hll, rfl, rfl, iv (by omega), rfl⟩, blkEq (hfin.trans hhb2.symm), trivial⟩
      · have e2 : cz.take i = cz := List.take_of_length_le (by omega)
        rw [e2] at hl1 ⊢
        have hie : i = m := by omega
        rw [hie] at hl1 ⊢
        have hcut : cut 0 (m * (w + 1)) (histB mo w cz) = histB mo w cz := by
          have := cut_all (histB mo w cz)
          rwa [hl1] at this
        repeat' (first
          | (show awpL _ _ _ _ _; first | refine goL ?_ | (refine gdLG ?_ ?_ <;> intro _ <;> try (exfalso; omega)))
          | (show awp _ _ _ _; first | refine goA ?_ | (refine cdG ?_ ?_ <;> intro _ <;> try (exfalso; omega)))
          | (show andThen _ _ _ _; refine goN ?_)
          | (show inBlock _ _ _ _; refine goB ?_)
          | (show retPost _ _ _ _ _; refine finG ?_)
          | (show retPostB _ _ _ _ _ _; first | refine finB rfl rfl ?_ ?_ | refine finBT rfl rfl rfl ?_ ?_))
        all_goals rw [hcut]
  · rw [if_neg he]
    generalize chk vs.length (rv lo) (rv hi) c b = e at *
    refine ret_of_awp tab Tryz.func62 rfl rfl (Nat.le_of_ble_eq_true rfl) (fun w0 F0 => ?_)
    repeat' (first
      | (show awpL _ _ _ _ _; first | refine goL ?_ | refine cl 46 tt rfl rfl rfl (hr := hk) (k := ?_) | (refine gdLG ?_ ?_ <;> intro _ <;> try (exfalso; omega)))
      | (show awp _ _ _ _; first | refine goA ?_ | (refine cdG ?_ ?_ <;> intro _ <;> try (exfalso; omega)))
      | (show andThen _ _ _ _; refine goN ?_)
      | (show inBlock _ _ _ _; refine goB ?_)
      | (show retPost _ _ _ _ _; refine finG ?_)
      | (show retPostB _ _ _ _ _ _; first | refine finB rfl rfl ?_ ?_ | refine finBT rfl rfl rfl ?_ ?_))
    all_goals rfl
theorem ref40_Histogram (vs : List R3) (lo hi : R3) (b c : Int) (hn : vs.length < 9223372036854775807) (hvs : vs.length ≤ 64 → ∀ r ∈ vs, RatOk r 100) (hl : RatOk lo 100) (hh : RatOk hi 100) (h1 : -9223372036854775808 ≤ c) (h2 : c < 9223372036854775808) (h3 : -9223372036854775808 ≤ b) (h4 : b < 9223372036854775808) : Ret Tryz.prog 63 [rsD vs, rD lo, rD hi, .int .i64 b, .int .i64 c] (· = if chk vs.length (rv lo) (rv hi) c b = 0 then .tup [.str (histB (mostZ (countsZ (rv lo) (rv hi) b (vs.map rv))) c.toNat (countsZ (rv lo) (rv hi) b (vs.map rv))), .int .i64 0] else .tup [.str [], .int .i64 (chk vs.length (rv lo) (rv hi) c b)]) := by
  have hk := ref40_check vs lo hi c b hn hl hh
  by_cases he : chk vs.length (rv lo) (rv hi) c b = 0
  · rw [if_pos he]
    rw [he] at hk
    obtain ⟨n1, n2, _, n4, n5, n6, n7⟩ := chk_zero he
    obtain ⟨w, rfl⟩ : ∃ w : Nat, c = w := ⟨c.toNat, by omega⟩
    obtain ⟨m, rfl⟩ : ∃ m : Nat, b = m := ⟨b.toNat, by omega⟩
    rw [Int.toNat_natCast]
    have hcn := ref40_counts vs lo hi m (by omega) (hvs (by omega)) hl hh (by omega)
    have hbd := counts_bd (rv lo) (rv hi) m (vs.map rv)
    have hcl := counts_len (rv lo) (rv hi) m (vs.map rv)
    rw [List.length_map] at hbd
    rw [Int.toNat_natCast] at hcl
    generalize countsZ (rv lo) (rv hi) m (vs.map rv) = cz at *
    clear he
    have hmb := mostZ_bd (l := cz) (k := 64) (by decide) (fun x hx => by have := hbd x hx; omega)
    have hmm : ∀ x ∈ cz, 0 ≤ x ∧ x ≤ mostZ cz := fun x hx => ⟨(hbd x hx).1, foldl_max_mem cz 0 x hx⟩
    have hbar : ∀ n ∈ cz, barZ (mostZ cz) w n ≤ w := fun n hn => barZ_le (hmm n hn).1 (hmm n hn).2
    have hlen : ∀ i, i ≤ m → (histB (mostZ cz) w (cz.take i)).length = i * (w + 1) := fun i hi => by
      rw [histB_len (fun x hx => hmm x (List.mem_of_mem_take hx)), List.length_take, show min i cz.length = i by omega]
    refine ret_of_awp tab Tryz.func63 rfl rfl (Nat.le_of_ble_eq_true rfl) (fun w0 F0 => ?_)
    repeat' (first
      | (show awpL _ _ _ _ _; first | refine goL ?_ | refine cl 52 tt rfl rfl rfl (hr := hk) (k := ?_) | refine cl 100 tt rfl rfl rfl (hr := hcn) (k := ?_) | (refine gdLG ?_ ?_ <;> intro _ <;> try (exfalso; omega)))
      | (show awp _ _ _ _; first | refine stopA 7 tt ?_)
      | (show awp _ _ _ _; first | refine goA ?_ | (refine cdG ?_ ?_ <;> intro _ <;> try (exfalso; omega)))
      | (show andThen _ _ _ _; refine goN ?_)
      | (show inBlock _ _ _ _; refine goB ?_)
      | (show retPost _ _ _ _ _; refine finG ?_)
      | (show retPostB _ _ _ _ _ _; first | refine finB rfl rfl ?_ ?_ | refine finBT rfl rfl rfl ?_ ?_))
    refine stopOut ?_
    refine goA ?_
    refine awp_loop1 (fun (i : Nat) => ([(4, .d (.int .i64 w)), (13, .d (i64s cz)), (14, .d (.int .i64 (mostZ (cz.take i)))), (35, .d (i64s cz)), (36, .d (.int .i64 m)), (37, .d (.int .i64 i))], [])) (fun i => i ≤ m) (fun i => m - i) 0 (by omega) ⟨rfl, rfl, rfl, rfl, by rw [← hcl]; rfl, rfl, rfl⟩ trivial (fun i hi' => ?_)
    have htb := mostZ_bd (l := cz.take i) (k := 64) (by decide) (fun x hx => by have := hbd x (List.mem_of_mem_take hx); omega)
    by_cases c1 : i < m
    · have hg := getD_bd hbd (show i < cz.length by omega)
      have ht := mostZ_take cz i (by omega)
      repeat' (first
        | (show awpL _ _ _ _ _; first | refine goL ?_ | (refine gdLG ?_ ?_ <;> intro _ <;> try (exfalso; omega)))
        | (show awp _ _ _ _; first | refine goA ?_ | (refine cdG ?_ ?_ <;> intro _ <;> try (exfalso; omega)))
        | (show andThen _ _ _ _; refine goN ?_)
        | (show inBlock _ _ _ _; refine goB ?_)
        | (show retPost _ _ _ _ _; refine finG ?_)
        | (show retPostB _ _ _ _ _ _; first | refine finB rfl rfl ?_ ?_ | refine finBT rfl rfl rfl ?_ ?_))
      exact ⟨i + 1, by omega, by omega, ⟨rfl, rfl, iv ht.symm, rfl, rfl, iv (by omega), rfl⟩, trivial⟩
    · have e : cz.take i = cz := List.take_of_length_le (by omega)
      rw [e]
      clear htb
      generalize mostZ cz = mo at *
      repeat' (first
        | (show awpL _ _ _ _ _; first | refine goL ?_ | (refine gdLG ?_ ?_ <;> intro _ <;> try (exfalso; omega)))
        | (show awp _ _ _ _; first | refine stopA 13 tt ?_)
        | (show awp _ _ _ _; first | refine goA ?_ | (refine cdG ?_ ?_ <;> intro _ <;> try (exfalso; omega)))
        | (show andThen _ _ _ _; refine goN ?_)
        | (show inBlock _ _ _ _; refine goB ?_)
        | (show retPost _ _ _ _ _; refine finG ?_)
        | (show retPostB _ _ _ _ _ _; first | refine finB rfl rfl ?_ ?_ | refine finBT rfl rfl rfl ?_ ?_))
      refine stopOut ?_
      refine goA ?_
      refine awp_adopt 17 700 5 1 eB 0 rfl ?_
      refine awp_loop1 (fun (i : Nat) => ([(4, .d (.int .i64 w)), (14, .d (.int .i64 mo)), (17, .own 700 0 (i * (w + 1)) 5 1), (45, .d (i64s cz)), (46, .d (.int .i64 m)), (47, .d (.int .i64 i))], [(700, .data 5 1 eB 0 (histB mo w (cz.take i)))])) (fun i => i ≤ m) (fun i => m - i) 0 (by omega) ⟨rfl, rfl, ownEq (by omega), rfl, by rw [← hcl]; rfl, rfl, rfl⟩ ⟨rfl, trivial⟩ (fun i hi' => ?_)
      have hl1 := hlen i hi'
      have hsz : i * (w + 1) ≤ 64 * 101 := Nat.mul_le_mul (by omega) (by omega)
      by_cases c2 : i < m
      · have hg := getD_bd hbd (show i < cz.length by omega)
        have hmem : cz.getD i 0 ∈ cz := by rw [List.getD_eq_getElem?_getD, List.getElem?_eq_getElem (show i < cz.length by omega)]; exact List.getElem_mem _
        have hmx := (hmm _ hmem).2
        have hbr := hbar _ hmem
        have ht := histB_take mo w cz i (by omega)
        have hl2 := hlen (i + 1) (by omega)
        have hw := mul_bd hg.1 (show cz.getD i 0 ≤ 64 by omega) (show w ≤ 100 by omega) (by decide)
        unfold barZ at hbr ht
        clear hmm hbd hbar hlen hmem
        generalize hnn : cz.getD i 0 = n at *
        generalize histB mo w (cz.take i) = hb1 at *
        obtain ⟨hb2, hhb2⟩ : ∃ hb2, histB mo w (cz.take (i + 1)) = hb2 := ⟨_, rfl⟩
        rw [hhb2] at ht hl2
        obtain ⟨bar, hbe⟩ : ∃ bar, (if 0 < mo then (n * ↑w / mo).toNat else 0) = bar := ⟨_, rfl⟩
        rw [hbe] at hbr ht
        have hbc : 0 < mo → ((bar : Int) = n * ↑w / mo) := fun h => by
          rw [if_pos h] at hbe
          have := Int.ediv_nonneg hw.1 (Int.le_of_lt h)
          omega
        have hb0' : ¬ 0 < mo → bar = 0 := fun h => by rw [if_neg h] at hbe; exact hbe.symm
        clear hbe
        repeat' (first
          | (show awpL _ _ _ _ _; first | refine goL ?_ | (refine gdLG ?_ ?_ <;> intro _ <;> try (exfalso; omega)))
          | (show awp _ _ _ _; first | refine stopA 16 tt ?_)
          | (show awp _ _ _ _; first | refine goA ?_ | (refine cdG ?_ ?_ <;> intro _ <;> try (exfalso; omega)))
          | (show andThen _ _ _ _; refine goN ?_)
          | (show inBlock _ _ _ _; refine goB ?_)
          | (show retPost _ _ _ _ _; refine finG ?_)
          | (show retPostB _ _ _ _ _ _; first | refine finB rfl rfl ?_ ?_ | refine finBT rfl rfl rfl ?_ ?_))
        refine stopOut ?_
        refine goA ?_
        refine awp_loop1 (fun (j : Nat) => ([(4, .d (.int .i64 w)), (14, .d (.int .i64 mo)), (17, .own 700 0 (i * (w + 1) + j) 5 1), (19, .d (.int .i64 n)), (20, .d (.int .i64 j)), (45, .d (i64s cz)), (46, .d (.int .i64 m)), (47, .d (.int .i64 i))], [(700, .data 5 1 eB 0 (hb1 ++ (barB bar w).take j))])) (fun j => j ≤ w) (fun j => w - j) 0 (by omega) ⟨rfl, rfl, rfl, iv hnn, rfl, rfl, rfl, rfl, rfl⟩ ⟨blkEq (by simp), trivial⟩ (fun j hj => ?_)
        have hbl := barB_len hbr
        have hl3 : (hb1 ++ (barB bar w).take j).length = i * (w + 1) + j := by rw [List.length_append, List.length_take, hbl, hl1]; omega
        by_cases c3 : j < w
        · have htk := barB_take hbr c3
          by_cases c4 : j < bar
          · have hm : 0 < mo := Classical.byContradiction fun h => by have := hb0' h; omega
            have hq := hbc hm
            clear hbc hb0'
            rw [if_pos c4] at htk
            repeat' (first
              | (show awpL _ _ _ _ _; first | refine goL ?_ | (refine gdLG ?_ ?_ <;> intro _ <;> try (exfalso; omega)))
              | (show awp _ _ _ _; first | refine goA ?_ | (refine cdG ?_ ?_ <;> intro _ <;> try (exfalso; omega)))
              | (show andThen _ _ _ _; refine goN ?_)
              | (show inBlock _ _ _ _; refine goB ?_)
              | (show retPost _ _ _ _ _; refine finG ?_)
              | (show retPostB _ _ _ _ _ _; first | refine finB rfl rfl ?_ ?_ | refine finBT rfl rfl rfl ?_ ?_))
            exact ⟨j + 1, by omega, by omega, ⟨rfl, rfl, ownEq (by rw [List.length_append, hl3]; rfl), rfl, iv (by omega), rfl, rfl, rfl, rfl⟩, blkEq (by rw [htk, List.append_assoc]; rfl), trivial⟩
          · rw [if_neg c4] at htk
            by_cases hm : 0 < mo
            · have hq := hbc hm
              clear hbc hb0'
              repeat' (first
                | (show awpL _ _ _ _ _; first | refine goL ?_ | (refine gdLG ?_ ?_ <;> intro _ <;> try (exfalso; omega)))
                | (show awp _ _ _ _; first | refine goA ?_ | (refine cdG ?_ ?_ <;> intro _ <;> try (exfalso; omega)))
                | (show andThen _ _ _ _; refine goN ?_)
                | (show inBlock _ _ _ _; refine goB ?_)
                | (show retPost _ _ _ _ _; refine finG ?_)
                | (show retPostB _ _ _ _ _ _; first | refine finB rfl rfl ?_ ?_ | refine finBT rfl rfl rfl ?_ ?_))
              exact ⟨j + 1, by omega, by omega, ⟨rfl, rfl, ownEq (by rw [List.length_append, hl3]; rfl), rfl, iv (by omega), rfl, rfl, rfl, rfl⟩, blkEq (by rw [htk, List.append_assoc]; rfl), trivial⟩
            · clear hbc hb0'
              repeat' (first
                | (show awpL _ _ _ _ _; first | refine goL ?_ | (refine gdLG ?_ ?_ <;> intro _ <;> try (exfalso; omega)))
                | (show awp _ _ _ _; first | refine goA ?_ | (refine cdG ?_ ?_ <;> intro _ <;> try (exfalso; omega)))
                | (show andThen _ _ _ _; refine goN ?_)
                | (show inBlock _ _ _ _; refine goB ?_)
                | (show retPost _ _ _ _ _; refine finG ?_)
                | (show retPostB _ _ _ _ _ _; first | refine finB rfl rfl ?_ ?_ | refine finBT rfl rfl rfl ?_ ?_))
              exact ⟨j + 1, by omega, by omega, ⟨rfl, rfl, ownEq (by rw [List.length_append, hl3]; rfl), rfl, iv (by omega), rfl, rfl, rfl, rfl⟩, blkEq (by rw [htk, List.append_assoc]; rfl), trivial⟩
        · have hjw : j = w := by omega
          subst hjw
          have hta : (barB bar j).take j = barB bar j := List.take_of_length_le (by omega)
          rw [hta] at hl3 ⊢
          have hfin : hb1 ++ barB bar j ++ [10] = hb2 := by rw [ht, List.append_assoc]
          have hll : (hb1 ++ barB bar j ++ [10]).length = (i + 1) * (j + 1) := by rw [hfin]; exact hl2
          clear hbc hb0'
          repeat' (first
            | (show awpL _ _ _ _ _; first | refine goL ?_ | (refine gdLG ?_ ?_ <;> intro _ <;> try (exfalso; omega)))
            | (show awp _ _ _ _; first | refine goA ?_ | (refine cdG ?_ ?_ <;> intro _ <;> try (exfalso; omega)))
            | (show andThen _ _ _ _; refine goN ?_)
            | (show inBlock _ _ _ _; refine goB ?_)
            | (show retPost _ _ _ _ _; refine finG ?_)
            | (show retPostB _ _ _ _ _ _; first | refine finB rfl rfl ?_ ?_ | refine finBT rfl rfl rfl ?_ ?_))
          exact ⟨i + 1, by omega, by omega, ⟨rfl, rfl, ownEq hll, rfl, rfl, iv (by omega), rfl⟩, blkEq (hfin.trans hhb2.symm), trivial⟩
      · have e2 : cz.take i = cz := List.take_of_length_le (by omega)
        rw [e2] at hl1 ⊢
        have hie : i = m := by omega
        rw [hie] at hl1 ⊢
        have hcut : cut 0 (m * (w + 1)) (histB mo w cz) = histB mo w cz := by
          have := cut_all (histB mo w cz)
          rwa [hl1] at this
        repeat' (first
          | (show awpL _ _ _ _ _; first | refine goL ?_ | (refine gdLG ?_ ?_ <;> intro _ <;> try (exfalso; omega)))
          | (show awp _ _ _ _; first | refine goA ?_ | (refine cdG ?_ ?_ <;> intro _ <;> try (exfalso; omega)))
          | (show andThen _ _ _ _; refine goN ?_)
          | (show inBlock _ _ _ _; refine goB ?_)
          | (show retPost _ _ _ _ _; refine finG ?_)
          | (show retPostB _ _ _ _ _ _; first | refine finB rfl rfl ?_ ?_ | refine finBT rfl rfl rfl ?_ ?_))
        all_goals rw [hcut]
  · rw [if_neg he]
    generalize chk vs.length (rv lo) (rv hi) c b = e at *
    refine ret_of_awp tab Tryz.func63 rfl rfl (Nat.le_of_ble_eq_true rfl) (fun w0 F0 => ?_)
    repeat' (first
      | (show awpL _ _ _ _ _; first | refine goL ?_ | refine cl 52 tt rfl rfl rfl (hr := hk) (k := ?_) | (refine gdLG ?_ ?_ <;> intro _ <;> try (exfalso; omega)))
      | (show awp _ _ _ _; first | refine goA ?_ | (refine cdG ?_ ?_ <;> intro _ <;> try (exfalso; omega)))
      | (show andThen _ _ _ _; refine goN ?_)
      | (show inBlock _ _ _ _; refine goB ?_)
      | (show retPost _ _ _ _ _; refine finG ?_)
      | (show retPostB _ _ _ _ _ _; first | refine finB rfl rfl ?_ ?_ | refine finBT rfl rfl rfl ?_ ?_))
    all_goals rfl
end Go.Proofs.YtoppaphffnojdaaGreat
