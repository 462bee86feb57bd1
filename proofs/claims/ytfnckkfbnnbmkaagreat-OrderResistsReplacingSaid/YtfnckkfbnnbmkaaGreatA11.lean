/-
  Contracts of functions of the program, and the layer that they are walked with: W21 W22 W23 S51 S44 OrdersF OrdersG W24. Conditions: as each says.
-/
import Derived.Test.YtfnckkfbnnbmkaaGreatA10
set_option linter.unusedVariables false
set_option linter.unusedSimpArgs false
set_option maxHeartbeats 8000000
namespace Go.Proofs.YtfnckkfbnnbmkaaGreat
open Go.Vw
attribute [local irreducible] awp awpL awpR

theorem take_snoc {l : List Rat} {i : Nat} (h : i < l.length) : l.take i ++ [l.getD i 0] = l.take (i + 1) := by
  rw [List.take_add_one, List.getD_eq_getElem?_getD, List.getElem?_eq_getElem h]
  rfl
theorem ref16_half (r t : R3) (hr : RatOk r 1000) (ht : RatOk t 1000) : Ret Tryz.prog 79 [rD r, rD t] (· = qD ((rv r + rv t) / 2)) := by
  have a := ref03_Add r t (hr.up (by decide)) (ht.up (by decide))
  have f := ref03_FromIntW 2 (by decide) (by decide)
  rw [show ((2 : Int) : Rat) = 2 from rfl] at f
  have k := (okQ_rv hr (by decide)).add (okQ_rv ht (by decide))
  have d := ref03_QuoQ (rv r + rv t) 2 (k.mono (by decide)) (okQ_two2.mono (by decide)) (by decide)
  clear k
  generalize rv r + rv t = s at *
  generalize (2 : Rat) = two at *
  refine ret_of_awp tab Tryz.func79 rfl rfl (Nat.le_of_ble_eq_true rfl) (fun w0 F0 => ?_)
  repeat' (first
    | (show awpL _ _ _ _ _; first | refine goL ?_ | refine cl 16 tt rfl rfl rfl (hr := a) (k := ?_) | refine cl 19 tt rfl rfl rfl (hr := f) (k := ?_) | refine cl 51 tt rfl rfl rfl (hr := d) (k := ?_) | (refine gdLG ?_ ?_ <;> intro _ <;> try (exfalso; omega)))
    | (show awp _ _ _ _; first | refine goA ?_ | (refine cdG ?_ ?_ <;> intro _ <;> try (exfalso; omega)))
    | (show andThen _ _ _ _; refine goN ?_)
    | (show inBlock _ _ _ _; refine goB ?_)
    | (show retPost _ _ _ _ _; refine finG ?_))
  rfl
theorem ref16_medians (l : List R3) (h0 : 0 < l.length) (hn : l.length ≤ 200) (hl : ∀ r ∈ l, RatOk r 1000) : Ret Tryz.prog 77 [rsD l] (· = .tup [qD (medLo (l.map rv)), qD (medHi (l.map rv))]) := by
  have hs := ref16_Sort l hn hl
  have hlen := srt_len (l.map rv)
  rw [List.length_map] at hlen
  unfold medLo medHi
  rw [List.length_map]
  generalize srt (l.map rv) = s at *
  have e1 : (((s.length : Int) + 1) / 2 - 1).toNat = (l.length + 1) / 2 - 1 := by omega
  have e2 : l.length / 2 = s.length / 2 := by omega
  rw [e2]
  refine ret_of_awp tab Tryz.func77 rfl rfl (Nat.le_of_ble_eq_true rfl) (fun w0 F0 => ?_)
  repeat' (first
    | (show awpL _ _ _ _ _; first | refine goL ?_ | refine cl 26 tt rfl rfl rfl (hr := hs) (k := ?_) | (refine gdLG ?_ ?_ <;> intro _ <;> try (exfalso; omega)))
    | (show awp _ _ _ _; first | refine goA ?_ | refine rgX 3 13 [] ?_ | (refine cdG ?_ ?_ <;> intro _ <;> try (exfalso; omega)))
    | (show andThen _ _ _ _; refine goN ?_)
    | (show inBlock _ _ _ _; refine goB ?_)
    | (show awpR _ _ _ _ _ _ _; first | refine goR ?_ | refine clR 26 tt rfl rfl rfl (hr := hs) (k := ?_) | (refine gdRG ?_ ?_ <;> intro _ <;> try (exfalso; omega)))
    | (show retPost _ _ _ _ _; refine finG ?_))
  all_goals rw [e1]
theorem order_distancesR (l : List R3) (m : R3) (hn : l.length ≤ 200) (hl : ∀ r ∈ l, RatOk r 1000) (hm : RatOk m 3000) : Ret Tryz.prog 76 [rsD l, rD m] (· = qsD (distQ (l.map rv) (rv m))) := by
  refine ret_of_awp tab Tryz.func76 rfl rfl (Nat.le_of_ble_eq_true rfl) (fun w0 F0 => ?_)
  repeat' (first
    | (show awpL _ _ _ _ _; first | refine goL ?_ | (refine gdLG ?_ ?_ <;> intro _ <;> try (exfalso; omega)))
    | (show awp _ _ _ _; first | refine goA ?_ | (refine cdG ?_ ?_ <;> intro _ <;> try (exfalso; omega)))
    | (show andThen _ _ _ _; refine goN ?_)
    | (show inBlock _ _ _ _; refine goB ?_)
    | (show retPost _ _ _ _ _; refine finG ?_))
  refine awp_adopt 5 500 30 3 qC 0 rfl ?_
  refine awp_loop1 (fun (i : Nat) => ([(3, .ptr 3 0), (5, .own 500 0 ((distQ (l.map rv) (rv m)).take i).length 30 3), (8, .d (rsD l)), (9, .d (.int .i64 l.length)), (10, .d (.int .i64 i))], [(3, .box 30 ((rC m).map V.d)), (500, qB ((distQ (l.map rv) (rv m)).take i))])) (fun i => i ≤ l.length) (fun i => l.length - i) 0 (by omega) ⟨rfl, rfl, rfl, rfl, rfl, rfl⟩ ⟨rfl, rfl, trivial⟩ (fun i hi => ?_)
  have hlen : ((distQ (l.map rv) (rv m)).take i).length = i := by simp [distQ]; omega
  by_cases h3 : i < l.length
  · have g1 := gMem hl h3
    have hs := rational_Sub (l.getD i r0) m (g1.up (by decide)) (hm.up (by decide))
    have kx : okQ 1000 (rv (l.getD i r0)) := okQ_rv g1 (by decide)
    have km : okQ 3000 (rv m) := okQ_rv hm (by decide)
    have ha := rational_AbsQ _ ((kx.sub km).mono (by decide))
    have e : (distQ (l.map rv) (rv m)).take i ++ [absQ (rv (l.getD i r0) - rv m)] = (distQ (l.map rv) (rv m)).take (i + 1) := by
      rw [List.take_add_one]
      simp [distQ, h3, List.getD, List.getElem?_eq_getElem h3]
    repeat' (first
      | (show awpL _ _ _ _ _; first | refine goL ?_ | refine cl 115 tt rfl rfl rfl (hr := hs) (k := ?_) | refine cl 114 tt rfl rfl rfl (hr := ha) (k := ?_) | (refine gdLG ?_ ?_ <;> intro _ <;> try (exfalso; omega)))
      | (show awp _ _ _ _; first | refine goA ?_ | (refine cdG ?_ ?_ <;> intro _ <;> try (exfalso; omega)))
      | (show andThen _ _ _ _; refine goN ?_)
      | (show inBlock _ _ _ _; refine goB ?_)
      | (show retPost _ _ _ _ _; refine finG ?_))
    exact ⟨i + 1, by omega, by omega, ⟨rfl, by rw [← e]; rfl, rfl, rfl, iv (by omega), rfl⟩, rfl, by rw [← e]; rfl, trivial⟩
  · have e : (distQ (l.map rv) (rv m)).take i = distQ (l.map rv) (rv m) := List.take_of_length_le (by simp [distQ]; omega)
    rw [e] at hlen ⊢
    repeat' (first
      | (show awpL _ _ _ _ _; first | refine goL ?_ | (refine gdLG ?_ ?_ <;> intro _ <;> try (exfalso; omega)))
      | (show awp _ _ _ _; first | refine goA ?_ | (refine cdG ?_ ?_ <;> intro _ <;> try (exfalso; omega)))
      | (show andThen _ _ _ _; refine goN ?_)
      | (show inBlock _ _ _ _; refine goB ?_)
      | (show retPost _ _ _ _ _; refine finG ?_))
    all_goals rfl
theorem ref16_distancesR (l : List R3) (m : R3) (hn : l.length ≤ 200) (hl : ∀ r ∈ l, RatOk r 1000) (hm : RatOk m 3000) : Ret Tryz.prog 78 [rsD l, rD m] (· = qsD (distQ (l.map rv) (rv m))) := by
  refine ret_of_awp tab Tryz.func78 rfl rfl (Nat.le_of_ble_eq_true rfl) (fun w0 F0 => ?_)
  repeat' (first
    | (show awpL _ _ _ _ _; first | refine goL ?_ | (refine gdLG ?_ ?_ <;> intro _ <;> try (exfalso; omega)))
    | (show awp _ _ _ _; first | refine goA ?_ | refine rg 5 9 ?_ | (refine cdG ?_ ?_ <;> intro _ <;> try (exfalso; omega)))
    | (show andThen _ _ _ _; refine goN ?_)
    | (show inBlock _ _ _ _; refine goB ?_)
    | (show awpR _ _ _ _ _ _ _; first | refine goR ?_ | (refine gdRG ?_ ?_ <;> intro _ <;> try (exfalso; omega)))
    | (show retPost _ _ _ _ _; refine finG ?_))
  refine awp_adopt 5 500 30 3 qC 0 rfl ?_
  refine awp_loop1 (fun (i : Nat) => ([(0, .d (rsD l)), (3, .ptr 3 0), (5, .own 500 0 ((distQ (l.map rv) (rv m)).take i).length 30 3), (6, .d (.int .i64 i))], [(3, .box 30 ((rC m).map V.d)), (500, qB ((distQ (l.map rv) (rv m)).take i))])) (fun i => i ≤ l.length) (fun i => l.length - i) 0 (by omega) ⟨rfl, rfl, rfl, rfl, rfl⟩ ⟨rfl, rfl, trivial⟩ (fun i hi => ?_)
  have hlen : ((distQ (l.map rv) (rv m)).take i).length = i := by simp [distQ]; omega
  by_cases h3 : i < l.length
  · have g1 := gMem hl h3
    have hs := ref03_Sub (l.getD i r0) m (g1.up (by decide)) (hm.up (by decide))
    have kx : okQ 1000 (rv (l.getD i r0)) := okQ_rv g1 (by decide)
    have km : okQ 3000 (rv m) := okQ_rv hm (by decide)
    have ha := ref03_AbsQ _ ((kx.sub km).mono (by decide))
    have e : (distQ (l.map rv) (rv m)).take i ++ [absQ (rv (l.getD i r0) - rv m)] = (distQ (l.map rv) (rv m)).take (i + 1) := by
      rw [List.take_add_one]
      simp [distQ, h3, List.getD, List.getElem?_eq_getElem h3]
    repeat' (first
      | (show awpL _ _ _ _ _; first | refine goL ?_ | refine cl 18 tt rfl rfl rfl (hr := hs) (k := ?_) | refine cl 50 tt rfl rfl rfl (hr := ha) (k := ?_) | (refine gdLG ?_ ?_ <;> intro _ <;> try (exfalso; omega)))
      | (show awp _ _ _ _; first | refine goA ?_ | refine rg 5 9 ?_ | (refine cdG ?_ ?_ <;> intro _ <;> try (exfalso; omega)))
      | (show andThen _ _ _ _; refine goN ?_)
      | (show inBlock _ _ _ _; refine goB ?_)
      | (show awpR _ _ _ _ _ _ _; first | refine goR ?_ | refine clR 18 tt rfl rfl rfl (hr := hs) (k := ?_) | refine clR 50 tt rfl rfl rfl (hr := ha) (k := ?_) | (refine gdRG ?_ ?_ <;> intro _ <;> try (exfalso; omega)))
      | (show retPost _ _ _ _ _; refine finG ?_))
    exact ⟨i + 1, by omega, by omega, ⟨rfl, rfl, by rw [← e]; rfl, iv (by omega), rfl⟩, rfl, by rw [← e]; rfl, trivial⟩
  · have e : (distQ (l.map rv) (rv m)).take i = distQ (l.map rv) (rv m) := List.take_of_length_le (by simp [distQ]; omega)
    rw [e] at hlen ⊢
    repeat' (first
      | (show awpL _ _ _ _ _; first | refine goL ?_ | (refine gdLG ?_ ?_ <;> intro _ <;> try (exfalso; omega)))
      | (show awp _ _ _ _; first | refine goA ?_ | refine rg 5 9 ?_ | (refine cdG ?_ ?_ <;> intro _ <;> try (exfalso; omega)))
      | (show andThen _ _ _ _; refine goN ?_)
      | (show inBlock _ _ _ _; refine goB ?_)
      | (show awpR _ _ _ _ _ _ _; first | refine goR ?_ | (refine gdRG ?_ ?_ <;> intro _ <;> try (exfalso; omega)))
      | (show retPost _ _ _ _ _; refine finG ?_))
    all_goals rfl
theorem map_take {l : List R3} {i : Nat} : (l.take i).map rv = (l.map rv).take i := List.map_take ..
theorem hl_item {L : List Rat} {j i : Nat} (h : i ≤ j) (hj : j < L.length) : ((L.take (j + 1)).map fun x => (x + L.getD j 0) / 2).getD i 0 = (L.getD i 0 + L.getD j 0) / 2 := by
  simp only [List.getD_eq_getElem?_getD, List.getElem?_map, List.getElem?_take, show i < j + 1 by omega, if_true]
  rw [List.getElem?_eq_getElem (show i < L.length by omega)]
  rfl
theorem order_HodgesLehmann (l : List R3) (h0 : 0 < l.length) (hn : l.length ≤ 12) (hl : ∀ r ∈ l, RatOk r 100) : Ret Tryz.prog 35 [rsD l] (· = .tup [qD (medLo (hlL (l.map rv))), qD (medHi (hlL (l.map rv))), .int .i64 0]) := by
  have hc := order_check l 1 (by omega)
  rw [show chkO l.length 1 = 0 by unfold chkO; rw [if_neg (by omega), if_neg (by omega)]] at hc
  have hLn : (l.map rv).length = l.length := List.length_map ..
  have hq : ∀ q ∈ l.map rv, okQ 100 q := fun q hq => by
    obtain ⟨r, hr, rfl⟩ := List.mem_map.1 hq
    exact okQ_rv (hl r hr) (by decide)
  have hb := hlL_len (l := l.map rv) (by omega) (by omega)
  have ho : ∀ q ∈ hlL (l.map rv), okQ 1000 q := fun q h => (hlTake_ok hq _ (Nat.le_refl _) q h).mono (by decide)
  have md0 := order_median ((hlL (l.map rv)).map rq) (by rw [List.length_map]; exact hb.2) (by rw [List.length_map]; omega) (fun r hr => by
    obtain ⟨q, hq2, rfl⟩ := List.mem_map.1 hr
    exact ok_rq (ho q hq2))
  rw [mapRvRq] at md0
  have md := md0.args (LeT.cons (leRsQ2 _) LeT.nil)
  clear md0 ho
  have hE : hlL (l.map rv) = hlTake (l.map rv) l.length := by unfold hlL; rw [hLn]
  refine ret_of_awp tab Tryz.func35 rfl rfl (Nat.le_of_ble_eq_true rfl) (fun w0 F0 => ?_)
  repeat' (first
    | (show awpL _ _ _ _ _; first | refine goL ?_ | refine cl 53 tt rfl rfl rfl (hr := hc) (k := ?_) | (refine gdLG ?_ ?_ <;> intro _ <;> try (exfalso; omega)))
    | (show awp _ _ _ _; first | refine goA ?_ | refine rgX 15 3 [] ?_ | (refine cdG ?_ ?_ <;> intro _ <;> try (exfalso; omega)))
    | (show andThen _ _ _ _; refine goN ?_)
    | (show inBlock _ _ _ _; refine goB ?_)
    | (show awpR _ _ _ _ _ _ _; first | refine goR ?_ | refine clR 53 tt rfl rfl rfl (hr := hc) (k := ?_) | (refine gdRG ?_ ?_ <;> intro _ <;> try (exfalso; omega)))
    | (show retPost _ _ _ _ _; refine finG ?_))
  refine awp_adopt 6 500 30 3 qC 0 rfl ?_
  refine awp_loop1 (fun (j : Nat) => ([(0, .d (rsD l)), (2, .ptr 2 0), (3, .ptr 3 0), (6, .own 500 0 (hlTake (l.map rv) j).length 30 3), (18, .d (rsD l)), (19, .d (.int .i64 l.length)), (20, .d (.int .i64 j))], [(2, .box 30 zR3), (3, .box 30 zR3), (500, qB (hlTake (l.map rv) j))])) (fun j => j ≤ l.length) (fun j => l.length - j) 0 (by omega) ⟨rfl, rfl, rfl, rfl, rfl, rfl, rfl, rfl⟩ ⟨rfl, rfl, rfl, trivial⟩ (fun j hj => ?_)
  have hml := hlT_len (l := l.map rv) (by omega) (k := j) (by omega)
  by_cases h3 : j < l.length
  · have gy := gMem hl h3
    have ky : okQ 100 (rv (l.getD j r0)) := okQ_rv gy (by decide)
    obtain ⟨M2, hM2⟩ : ∃ M2, hlTake (l.map rv) (j + 1) = M2 := ⟨_, rfl⟩
    have hM3 := hM2
    rw [hlTake] at hM3
    obtain ⟨Fl, hF⟩ : ∃ Fl, (((l.map rv).take (j + 1)).map fun x => (x + (l.map rv).getD j 0) / 2) = Fl := ⟨_, rfl⟩
    have hFl : Fl.length = j + 1 := by rw [← hF, List.length_map, List.length_take]; omega
    have hFi : ∀ i, i ≤ j → Fl.getD i 0 = (rv (l.getD i r0) + rv (l.getD j r0)) / 2 := fun i hi => by
      rw [← hF, hl_item hi (by omega), gRv (by omega), gRv h3]
    rw [hF] at hM3
    have htl : (l.take (j + 1)).length = j + 1 := by rw [List.length_take]; omega
    clear md hb hE hq hF hc
    generalize hlTake (l.map rv) j = M at *
    repeat' (first
      | (show awpL _ _ _ _ _; first | refine goL ?_ | (refine gdLG ?_ ?_ <;> intro _ <;> try (exfalso; omega)))
      | (show awp _ _ _ _; first | refine goA ?_ | refine rgX 15 3 [] ?_ | (refine cdG ?_ ?_ <;> intro _ <;> try (exfalso; omega)))
      | (show andThen _ _ _ _; refine goN ?_)
      | (show inBlock _ _ _ _; refine goB ?_)
      | (show awpR _ _ _ _ _ _ _; first | refine goR ?_ | (refine gdRG ?_ ?_ <;> intro _ <;> try (exfalso; omega)))
      | (show retPost _ _ _ _ _; refine finG ?_))
    refine awp_loop1 (fun (i : Nat) => ([(0, .d (rsD l)), (2, .ptr 2 0), (3, .ptr 3 0), (6, .own 500 0 (M ++ Fl.take i).length 30 3), (8, .ptr 8 0), (18, .d (rsD l)), (19, .d (.int .i64 l.length)), (20, .d (.int .i64 j)), (28, .d (rsD (l.take (j + 1)))), (29, .d (.int .i64 (j + 1 : Nat))), (30, .d (.int .i64 i))], [(2, .box 30 zR3), (3, .box 30 zR3), (8, .box 30 ((rC (l.getD j r0)).map V.d)), (500, qB (M ++ Fl.take i))])) (fun i => i ≤ j + 1) (fun i => j + 1 - i) 0 (by omega) ⟨rfl, rfl, rfl, ownEq (n := M.length) (by simp), rfl, rfl, rfl, rfl, rfl, iv (by rw [htl]), rfl, rfl⟩ ⟨rfl, rfl, rfl, blkEq (by simp), trivial⟩ (fun i hi => ?_)
    have hll : (M ++ Fl.take i).length = M.length + i := by rw [List.length_append, List.length_take]; omega
    have htl : (l.take (j + 1)).length = j + 1 := by rw [List.length_take]; omega
    by_cases h4 : i ≤ j
    · have gx := gMem hl (show i < l.length by omega)
      have kx : okQ 100 (rv (l.getD i r0)) := okQ_rv gx (by decide)
      have ge : (l.take (j + 1)).getD i r0 = l.getD i r0 := by simp only [List.getD_eq_getElem?_getD, List.getElem?_take, show i < j + 1 by omega, if_true]
      have a0 := rational_Add (l.getD i r0) (l.getD j r0) (gx.up (by decide)) (gy.up (by decide))
      have a : Ret Tryz.prog 74 [rD ((l.take (j + 1)).getD i r0), rD (l.getD j r0)] (· = qD (rv (l.getD i r0) + rv (l.getD j r0))) := by rw [ge]; exact a0
      have hf := order_half (rv (l.getD i r0) + rv (l.getD j r0)) ((kx.add ky).mono (by decide))
      have hi4 := hFi i h4
      have hsn := take_snoc (l := Fl) (i := i) (by omega)
      rw [hi4] at hsn
      clear hi4 hFi kx ky a0 ge
      generalize (rv (l.getD i r0) + rv (l.getD j r0)) / 2 = h2 at *
      generalize rv (l.getD i r0) + rv (l.getD j r0) = s2 at *
      have ea : M ++ Fl.take i ++ [h2] = M ++ Fl.take (i + 1) := by rw [List.append_assoc, hsn]
      generalize M ++ Fl.take i = N at *
      repeat' (first
        | (show awpL _ _ _ _ _; first | refine goL ?_ | refine cl 74 tt rfl rfl rfl (hr := a) (k := ?_) | refine cl 80 tt rfl rfl rfl (hr := hf) (k := ?_) | (refine gdLG ?_ ?_ <;> intro _ <;> try (exfalso; omega)))
        | (show awp _ _ _ _; first | refine goA ?_ | refine rgX 15 3 [] ?_ | (refine cdG ?_ ?_ <;> intro _ <;> try (exfalso; omega)))
        | (show andThen _ _ _ _; refine goN ?_)
        | (show inBlock _ _ _ _; refine goB ?_)
        | (show awpR _ _ _ _ _ _ _; first | refine goR ?_ | refine clR 74 tt rfl rfl rfl (hr := a) (k := ?_) | refine clR 80 tt rfl rfl rfl (hr := hf) (k := ?_) | (refine gdRG ?_ ?_ <;> intro _ <;> try (exfalso; omega)))
        | (show retPost _ _ _ _ _; refine finG ?_))
      exact ⟨i + 1, by omega, by omega, ⟨rfl, rfl, rfl, ownEq (by rw [← ea]), rfl, rfl, rfl, rfl, rfl, rfl, iv (by omega), rfl⟩, rfl, rfl, rfl, blkEq (by rw [← ea]), trivial⟩
    · have e : Fl.take i = Fl := List.take_of_length_le (by omega)
      rw [e, hM3]
      clear hFi
      repeat' (first
        | (show awpL _ _ _ _ _; first | refine goL ?_ | (refine gdLG ?_ ?_ <;> intro _ <;> try (exfalso; omega)))
        | (show awp _ _ _ _; first | refine goA ?_ | refine rgX 15 3 [] ?_ | (refine cdG ?_ ?_ <;> intro _ <;> try (exfalso; omega)))
        | (show andThen _ _ _ _; refine goN ?_)
        | (show inBlock _ _ _ _; refine goB ?_)
        | (show awpR _ _ _ _ _ _ _; first | refine goR ?_ | (refine gdRG ?_ ?_ <;> intro _ <;> try (exfalso; omega)))
        | (show retPost _ _ _ _ _; refine finG ?_))
      exact ⟨j + 1, by omega, by omega, ⟨rfl, rfl, rfl, ownEq (by rw [hM2]), rfl, rfl, iv (by omega), rfl⟩, rfl, rfl, blkEq hM2.symm, trivial⟩
  · obtain rfl : j = l.length := by omega
    rw [← hE] at hml ⊢
    clear hE hq hc
    generalize medLo (hlL (l.map rv)) = x at *
    generalize medHi (hlL (l.map rv)) = y at *
    generalize hlL (l.map rv) = M at *
    repeat' (first
      | (show awpL _ _ _ _ _; first | refine goL ?_ | refine cl 54 tt rfl rfl rfl (hr := md) (k := ?_) | (refine gdLG ?_ ?_ <;> intro _ <;> try (exfalso; omega)))
      | (show awp _ _ _ _; first | refine goA ?_ | refine rgX 15 3 [] ?_ | (refine cdG ?_ ?_ <;> intro _ <;> try (exfalso; omega)))
      | (show andThen _ _ _ _; refine goN ?_)
      | (show inBlock _ _ _ _; refine goB ?_)
      | (show awpR _ _ _ _ _ _ _; first | refine goR ?_ | refine clR 54 tt rfl rfl rfl (hr := md) (k := ?_) | (refine gdRG ?_ ?_ <;> intro _ <;> try (exfalso; omega)))
      | (show retPost _ _ _ _ _; refine finG ?_))
    all_goals rfl
theorem ref16_HodgesLehmann (l : List R3) (h0 : 0 < l.length) (hn : l.length ≤ 12) (hl : ∀ r ∈ l, RatOk r 100) : Ret Tryz.prog 36 [rsD l] (· = .tup [qD (medLo (hlL (l.map rv))), qD (medHi (hlL (l.map rv))), .int .i64 0]) := by
  have hc := ref16_check l 1 (by omega)
  rw [show chkO l.length 1 = 0 by unfold chkO; rw [if_neg (by omega), if_neg (by omega)]] at hc
  have hLn : (l.map rv).length = l.length := List.length_map ..
  have hq : ∀ q ∈ l.map rv, okQ 100 q := fun q hq => by
    obtain ⟨r, hr, rfl⟩ := List.mem_map.1 hq
    exact okQ_rv (hl r hr) (by decide)
  have hb := hlL_len (l := l.map rv) (by omega) (by omega)
  have ho : ∀ q ∈ hlL (l.map rv), okQ 1000 q := fun q h => (hlTake_ok hq _ (Nat.le_refl _) q h).mono (by decide)
  have md0 := ref16_medians ((hlL (l.map rv)).map rq) (by rw [List.length_map]; exact hb.2) (by rw [List.length_map]; omega) (fun r hr => by
    obtain ⟨q, hq2, rfl⟩ := List.mem_map.1 hr
    exact ok_rq (ho q hq2))
  rw [mapRvRq] at md0
  have md := md0.args (LeT.cons (leRsQ2 _) LeT.nil)
  clear md0 ho
  have hE : hlL (l.map rv) = hlTake (l.map rv) l.length := by unfold hlL; rw [hLn]
  refine ret_of_awp tab Tryz.func36 rfl rfl (Nat.le_of_ble_eq_true rfl) (fun w0 F0 => ?_)
  repeat' (first
    | (show awpL _ _ _ _ _; first | refine goL ?_ | refine cl 81 tt rfl rfl rfl (hr := hc) (k := ?_) | (refine gdLG ?_ ?_ <;> intro _ <;> try (exfalso; omega)))
    | (show awp _ _ _ _; first | refine goA ?_ | refine rg 11 11 ?_ | refine rgX 13 3 [] ?_ | (refine cdG ?_ ?_ <;> intro _ <;> try (exfalso; omega)))
    | (show andThen _ _ _ _; refine goN ?_)
    | (show inBlock _ _ _ _; refine goB ?_)
    | (show awpR _ _ _ _ _ _ _; first | refine goR ?_ | refine clR 81 tt rfl rfl rfl (hr := hc) (k := ?_) | (refine gdRG ?_ ?_ <;> intro _ <;> try (exfalso; omega)))
    | (show retPost _ _ _ _ _; refine finG ?_))
  refine awp_adopt 6 500 30 3 qC 0 rfl ?_
  refine awp_loop1 (fun (j : Nat) => ([(0, .d (rsD l)), (2, .ptr 2 0), (3, .ptr 3 0), (6, .own 500 0 (hlTake (l.map rv) j).length 30 3), (7, .d (.int .i64 j))], [(2, .box 30 zR3), (3, .box 30 zR3), (500, qB (hlTake (l.map rv) j))])) (fun j => j ≤ l.length) (fun j => l.length - j) 0 (by omega) ⟨rfl, rfl, rfl, rfl, rfl, rfl⟩ ⟨rfl, rfl, rfl, trivial⟩ (fun j hj => ?_)
  have hml := hlT_len (l := l.map rv) (by omega) (k := j) (by omega)
  by_cases h3 : j < l.length
  · have gy := gMem hl h3
    have ky : okQ 100 (rv (l.getD j r0)) := okQ_rv gy (by decide)
    obtain ⟨M2, hM2⟩ : ∃ M2, hlTake (l.map rv) (j + 1) = M2 := ⟨_, rfl⟩
    have hM3 := hM2
    rw [hlTake] at hM3
    obtain ⟨Fl, hF⟩ : ∃ Fl, (((l.map rv).take (j + 1)).map fun x => (x + (l.map rv).getD j 0) / 2) = Fl := ⟨_, rfl⟩
    have hFl : Fl.length = j + 1 := by rw [← hF, List.length_map, List.length_take]; omega
    have hFi : ∀ i, i ≤ j → Fl.getD i 0 = (rv (l.getD i r0) + rv (l.getD j r0)) / 2 := fun i hi => by
      rw [← hF, hl_item hi (by omega), gRv (by omega), gRv h3]
    rw [hF] at hM3
    clear md hb hE hq hF hc
    generalize hlTake (l.map rv) j = M at *
    repeat' (first
      | (show awpL _ _ _ _ _; first | refine goL ?_ | (refine gdLG ?_ ?_ <;> intro _ <;> try (exfalso; omega)))
      | (show awp _ _ _ _; first | refine goA ?_ | refine rg 11 11 ?_ | refine rgX 13 3 [] ?_ | (refine cdG ?_ ?_ <;> intro _ <;> try (exfalso; omega)))
      | (show andThen _ _ _ _; refine goN ?_)
      | (show inBlock _ _ _ _; refine goB ?_)
      | (show awpR _ _ _ _ _ _ _; first | refine goR ?_ | (refine gdRG ?_ ?_ <;> intro _ <;> try (exfalso; omega)))
      | (show retPost _ _ _ _ _; refine finG ?_))
    refine awp_loop1 (fun (i : Nat) => ([(0, .d (rsD l)), (2, .ptr 2 0), (3, .ptr 3 0), (6, .own 500 0 (M ++ Fl.take i).length 30 3), (7, .d (.int .i64 j)), (8, .d (.int .i64 i))], [(2, .box 30 zR3), (3, .box 30 zR3), (500, qB (M ++ Fl.take i))])) (fun i => i ≤ j + 1) (fun i => j + 1 - i) 0 (by omega) ⟨rfl, rfl, rfl, ownEq (n := M.length) (by simp), rfl, rfl, rfl⟩ ⟨rfl, rfl, blkEq (by simp), trivial⟩ (fun i hi => ?_)
    have hll : (M ++ Fl.take i).length = M.length + i := by rw [List.length_append, List.length_take]; omega
    by_cases h4 : i ≤ j
    · have gx := gMem hl (show i < l.length by omega)
      have hf := ref16_half (l.getD i r0) (l.getD j r0) (gx.up (by decide)) (gy.up (by decide))
      have hi4 := hFi i h4
      have hsn := take_snoc (l := Fl) (i := i) (by omega)
      rw [hi4] at hsn
      clear hi4 hFi ky
      generalize (rv (l.getD i r0) + rv (l.getD j r0)) / 2 = h2 at *
      have ea : M ++ Fl.take i ++ [h2] = M ++ Fl.take (i + 1) := by rw [List.append_assoc, hsn]
      generalize M ++ Fl.take i = N at *
      repeat' (first
        | (show awpL _ _ _ _ _; first | refine goL ?_ | refine cl 79 tt rfl rfl rfl (hr := hf) (k := ?_) | (refine gdLG ?_ ?_ <;> intro _ <;> try (exfalso; omega)))
        | (show awp _ _ _ _; first | refine goA ?_ | refine rg 11 11 ?_ | refine rgX 13 3 [] ?_ | (refine cdG ?_ ?_ <;> intro _ <;> try (exfalso; omega)))
        | (show andThen _ _ _ _; refine goN ?_)
        | (show inBlock _ _ _ _; refine goB ?_)
        | (show awpR _ _ _ _ _ _ _; first | refine goR ?_ | refine clR 79 tt rfl rfl rfl (hr := hf) (k := ?_) | (refine gdRG ?_ ?_ <;> intro _ <;> try (exfalso; omega)))
        | (show retPost _ _ _ _ _; refine finG ?_))
      exact ⟨i + 1, by omega, by omega, ⟨rfl, rfl, rfl, ownEq (by rw [← ea]), rfl, iv (by omega), rfl⟩, rfl, rfl, blkEq (by rw [← ea]), trivial⟩
    · have e : Fl.take i = Fl := List.take_of_length_le (by omega)
      rw [e, hM3]
      clear hFi
      repeat' (first
        | (show awpL _ _ _ _ _; first | refine goL ?_ | (refine gdLG ?_ ?_ <;> intro _ <;> try (exfalso; omega)))
        | (show awp _ _ _ _; first | refine goA ?_ | refine rg 11 11 ?_ | refine rgX 13 3 [] ?_ | (refine cdG ?_ ?_ <;> intro _ <;> try (exfalso; omega)))
        | (show andThen _ _ _ _; refine goN ?_)
        | (show inBlock _ _ _ _; refine goB ?_)
        | (show awpR _ _ _ _ _ _ _; first | refine goR ?_ | (refine gdRG ?_ ?_ <;> intro _ <;> try (exfalso; omega)))
        | (show retPost _ _ _ _ _; refine finG ?_))
      exact ⟨j + 1, by omega, by omega, ⟨rfl, rfl, rfl, ownEq (by rw [hM2]), iv (by omega), rfl⟩, rfl, rfl, blkEq hM2.symm, trivial⟩
  · obtain rfl : j = l.length := by omega
    rw [← hE] at hml ⊢
    clear hE hq hc
    generalize medLo (hlL (l.map rv)) = x at *
    generalize medHi (hlL (l.map rv)) = y at *
    generalize hlL (l.map rv) = M at *
    repeat' (first
      | (show awpL _ _ _ _ _; first | refine goL ?_ | refine cl 77 tt rfl rfl rfl (hr := md) (k := ?_) | (refine gdLG ?_ ?_ <;> intro _ <;> try (exfalso; omega)))
      | (show awp _ _ _ _; first | refine goA ?_ | refine rg 11 11 ?_ | refine rgX 13 3 [] ?_ | (refine cdG ?_ ?_ <;> intro _ <;> try (exfalso; omega)))
      | (show andThen _ _ _ _; refine goN ?_)
      | (show inBlock _ _ _ _; refine goB ?_)
      | (show awpR _ _ _ _ _ _ _; first | refine goR ?_ | refine clR 77 tt rfl rfl rfl (hr := md) (k := ?_) | (refine gdRG ?_ ?_ <;> intro _ <;> try (exfalso; omega)))
      | (show retPost _ _ _ _ _; refine finG ?_))
    all_goals rfl
theorem order_Qn (l : List R3) (h0 : 2 ≤ l.length) (hn : l.length ≤ 12) (hl : ∀ r ∈ l, RatOk r 100) : Ret Tryz.prog 37 [rsD l] (· = .tup [qD (qnQ (l.map rv)), .int .i64 0]) := by
  have hc := order_check l 2 (by omega)
  rw [show chkO l.length 2 = 0 by unfold chkO; rw [if_neg (by omega), if_neg (by omega)]] at hc
  have hLn : (l.map rv).length = l.length := List.length_map ..
  have hq : ∀ q ∈ l.map rv, okQ 100 q := fun q hq => by
    obtain ⟨r, hr, rfl⟩ := List.mem_map.1 hq
    exact okQ_rv (hl r hr) (by decide)
  have hb := qn_at (l := l.map rv) (by omega) (by omega)
  have ho : ∀ q ∈ qnL (l.map rv), okQ 1000 q := fun q h => (qnTake_ok hq _ (Nat.le_refl _) q h).mono (by decide)
  have so0 := order_Sort ((qnL (l.map rv)).map rq) (by rw [List.length_map]; omega) (fun r hr => by
    obtain ⟨q, hq2, rfl⟩ := List.mem_map.1 hr
    exact ok_rq (ho q hq2))
  rw [mapRvRq] at so0
  have so := so0.args (LeT.cons (leRsQ2 _) LeT.nil)
  clear so0 ho
  have hE : qnL (l.map rv) = qnTake (l.map rv) l.length := by unfold qnL; rw [hLn]
  have hsl := srt_len (qnL (l.map rv))
  unfold qnQ
  rw [hLn] at hb ⊢
  obtain ⟨h, hh⟩ : ∃ h, l.length / 2 + 1 = h := ⟨_, rfl⟩
  rw [hh] at hb ⊢
  obtain ⟨z, hz⟩ : ∃ z, h * (h - 1) = z := ⟨_, rfl⟩
  have hz2 : (h : Int) * ((h : Int) - 1) = (z : Int) := by rw [← hz, Int.natCast_mul, Int.natCast_sub (by omega)]; rfl
  have hz3 : z ≤ 42 := by
    rw [← hz]
    have : h * (h - 1) ≤ 7 * 6 := Nat.mul_le_mul (by omega) (by omega)
    omega
  rw [hz] at hb ⊢
  clear hz
  have hh2 : 2 ≤ h ∧ h ≤ 7 := by omega
  generalize srt (qnL (l.map rv)) = S at *
  refine ret_of_awp tab Tryz.func37 rfl rfl (Nat.le_of_ble_eq_true rfl) (fun w0 F0 => ?_)
  repeat' (first
    | (show awpL _ _ _ _ _; first | refine goL ?_ | refine cl 53 tt rfl rfl rfl (hr := hc) (k := ?_) | (refine gdLG ?_ ?_ <;> intro _ <;> try (exfalso; omega)))
    | (show awp _ _ _ _; first | refine goA ?_ | refine rg 8 6 ?_ | (refine cdG ?_ ?_ <;> intro _ <;> try (exfalso; omega)))
    | (show andThen _ _ _ _; refine goN ?_)
    | (show inBlock _ _ _ _; refine goB ?_)
    | (show awpR _ _ _ _ _ _ _; first | refine goR ?_ | refine clR 53 tt rfl rfl rfl (hr := hc) (k := ?_) | (refine gdRG ?_ ?_ <;> intro _ <;> try (exfalso; omega)))
    | (show retPost _ _ _ _ _; refine finG ?_))
  refine awp_adopt 5 500 30 3 qC 0 rfl ?_
  refine awp_loop1 (fun (j : Nat) => ([(0, .d (rsD l)), (2, .ptr 2 0), (5, .own 500 0 (qnTake (l.map rv) j).length 30 3), (15, .d (rsD l)), (16, .d (.int .i64 l.length)), (17, .d (.int .i64 j))], [(2, .box 30 zR3), (500, qB (qnTake (l.map rv) j))])) (fun j => j ≤ l.length) (fun j => l.length - j) 0 (by omega) ⟨rfl, rfl, rfl, rfl, rfl, rfl, rfl⟩ ⟨rfl, rfl, trivial⟩ (fun j hj => ?_)
  have hml := qnT_len (l := l.map rv) (by omega) (k := j) (by omega)
  by_cases h3 : j < l.length
  · have gy := gMem hl h3
    have hd := order_distancesR (l.take j) (l.getD j r0) (by rw [List.length_take]; omega) (fun r hr => (hl r (List.mem_of_mem_take hr)).up (by decide)) (gy.up (by decide))
    obtain ⟨M2, hM2⟩ : ∃ M2, qnTake (l.map rv) (j + 1) = M2 := ⟨_, rfl⟩
    have hM3 := hM2
    rw [qnTake, gRv h3, ← map_take] at hM3
    have hFl : (distQ ((l.take j).map rv) (rv (l.getD j r0))).length = j := by unfold distQ; rw [List.length_map, List.length_map, List.length_take]; omega
    clear so hb hE hq hsl hc
    generalize distQ ((l.take j).map rv) (rv (l.getD j r0)) = Fl at *
    generalize qnTake (l.map rv) j = M at *
    repeat' (first
      | (show awpL _ _ _ _ _; first | refine goL ?_ | refine cl 76 tt rfl rfl rfl (hr := hd) (k := ?_) | (refine gdLG ?_ ?_ <;> intro _ <;> try (exfalso; omega)))
      | (show awp _ _ _ _; first | refine goA ?_ | refine rg 8 6 ?_ | (refine cdG ?_ ?_ <;> intro _ <;> try (exfalso; omega)))
      | (show andThen _ _ _ _; refine goN ?_)
      | (show inBlock _ _ _ _; refine goB ?_)
      | (show awpR _ _ _ _ _ _ _; first | refine goR ?_ | refine clR 76 tt rfl rfl rfl (hr := hd) (k := ?_) | (refine gdRG ?_ ?_ <;> intro _ <;> try (exfalso; omega)))
      | (show retPost _ _ _ _ _; refine finG ?_))
    exact ⟨j + 1, by omega, by omega, ⟨rfl, rfl, ownEq (by rw [hM2, ← hM3]), rfl, rfl, iv (by omega), rfl⟩, rfl, blkEq (by rw [hM2, hM3]), trivial⟩
  · obtain rfl : j = l.length := by omega
    rw [← hE] at hml ⊢
    clear hE hq hc
    generalize qnL (l.map rv) = M at *
    have hix : ((z : Int) / 2 - 1).toNat = z / 2 - 1 := by omega
    repeat' (first
      | (show awpL _ _ _ _ _; first | refine goL ?_ | (refine gdLG ?_ ?_ <;> intro _ <;> try (exfalso; omega)))
      | (show awp _ _ _ _; first | refine stopA 11 tt ?_)
      | (show awp _ _ _ _; first | refine goA ?_ | refine rg 8 6 ?_ | (refine cdG ?_ ?_ <;> intro _ <;> try (exfalso; omega)))
      | (show andThen _ _ _ _; refine goN ?_)
      | (show inBlock _ _ _ _; refine goB ?_)
      | (show awpR _ _ _ _ _ _ _; first | refine goR ?_ | (refine gdRG ?_ ?_ <;> intro _ <;> try (exfalso; omega)))
      | (show retPost _ _ _ _ _; refine finG ?_))
    refine stopOut ?_
    refine awp_slots [(2, .ptr 2 0), (5, .own 500 0 M.length 30 3), (8, .d (.int .i64 h))] [(2, .box 30 zR3), (500, qB M)] ⟨rfl, rfl, iv (by omega), rfl⟩ ⟨rfl, rfl, trivial⟩ ?_
    clear hh
    have hix2 : ((h : Int) * ((h : Int) - 1) / 2 - 1).toNat = z / 2 - 1 := by rw [hz2]; exact hix
    repeat' (first
      | (show awpL _ _ _ _ _; first | refine goL ?_ | refine cl 47 tt rfl rfl rfl (hr := so) (k := ?_) | (refine gdLG ?_ ?_ <;> intro _ <;> try (exfalso; omega)))
      | (show awp _ _ _ _; first | refine goA ?_ | refine rg 8 6 ?_ | (refine cdG ?_ ?_ <;> intro _ <;> try (exfalso; omega)))
      | (show andThen _ _ _ _; refine goN ?_)
      | (show inBlock _ _ _ _; refine goB ?_)
      | (show awpR _ _ _ _ _ _ _; first | refine goR ?_ | refine clR 47 tt rfl rfl rfl (hr := so) (k := ?_) | (refine gdRG ?_ ?_ <;> intro _ <;> try (exfalso; omega)))
      | (show retPost _ _ _ _ _; refine finG ?_))
    all_goals rw [hix2]
theorem ref16_Qn (l : List R3) (h0 : 2 ≤ l.length) (hn : l.length ≤ 12) (hl : ∀ r ∈ l, RatOk r 100) : Ret Tryz.prog 38 [rsD l] (· = .tup [qD (qnQ (l.map rv)), .int .i64 0]) := by
  have hc := ref16_check l 2 (by omega)
  rw [show chkO l.length 2 = 0 by unfold chkO; rw [if_neg (by omega), if_neg (by omega)]] at hc
  have hLn : (l.map rv).length = l.length := List.length_map ..
  have hq : ∀ q ∈ l.map rv, okQ 100 q := fun q hq => by
    obtain ⟨r, hr, rfl⟩ := List.mem_map.1 hq
    exact okQ_rv (hl r hr) (by decide)
  have hb := qn_at (l := l.map rv) (by omega) (by omega)
  have ho : ∀ q ∈ qnL (l.map rv), okQ 1000 q := fun q h => (qnTake_ok hq _ (Nat.le_refl _) q h).mono (by decide)
  have so0 := ref16_Sort ((qnL (l.map rv)).map rq) (by rw [List.length_map]; omega) (fun r hr => by
    obtain ⟨q, hq2, rfl⟩ := List.mem_map.1 hr
    exact ok_rq (ho q hq2))
  rw [mapRvRq] at so0
  have so := so0.args (LeT.cons (leRsQ2 _) LeT.nil)
  clear so0 ho
  have hE : qnL (l.map rv) = qnTake (l.map rv) l.length := by unfold qnL; rw [hLn]
  have hsl := srt_len (qnL (l.map rv))
  unfold qnQ
  rw [hLn] at hb ⊢
  obtain ⟨h, hh⟩ : ∃ h, l.length / 2 + 1 = h := ⟨_, rfl⟩
  rw [hh] at hb ⊢
  obtain ⟨z, hz⟩ : ∃ z, h * (h - 1) = z := ⟨_, rfl⟩
  have hz2 : (h : Int) * ((h : Int) - 1) = (z : Int) := by rw [← hz, Int.natCast_mul, Int.natCast_sub (by omega)]; rfl
  have hz3 : z ≤ 42 := by
    rw [← hz]
    have : h * (h - 1) ≤ 7 * 6 := Nat.mul_le_mul (by omega) (by omega)
    omega
  rw [hz] at hb ⊢
  clear hz
  have hh2 : 2 ≤ h ∧ h ≤ 7 := by omega
  generalize srt (qnL (l.map rv)) = S at *
  refine ret_of_awp tab Tryz.func38 rfl rfl (Nat.le_of_ble_eq_true rfl) (fun w0 F0 => ?_)
  repeat' (first
    | (show awpL _ _ _ _ _; first | refine goL ?_ | refine cl 81 tt rfl rfl rfl (hr := hc) (k := ?_) | (refine gdLG ?_ ?_ <;> intro _ <;> try (exfalso; omega)))
    | (show awp _ _ _ _; first | refine goA ?_ | refine rg 8 9 ?_ | (refine cdG ?_ ?_ <;> intro _ <;> try (exfalso; omega)))
    | (show andThen _ _ _ _; refine goN ?_)
    | (show inBlock _ _ _ _; refine goB ?_)
    | (show awpR _ _ _ _ _ _ _; first | refine goR ?_ | refine clR 81 tt rfl rfl rfl (hr := hc) (k := ?_) | (refine gdRG ?_ ?_ <;> intro _ <;> try (exfalso; omega)))
    | (show retPost _ _ _ _ _; refine finG ?_))
  refine awp_adopt 5 500 30 3 qC 0 rfl ?_
  refine awp_loop1 (fun (j : Nat) => ([(0, .d (rsD l)), (2, .ptr 2 0), (5, .own 500 0 (qnTake (l.map rv) j).length 30 3), (6, .d (.int .i64 j))], [(2, .box 30 zR3), (500, qB (qnTake (l.map rv) j))])) (fun j => j ≤ l.length) (fun j => l.length - j) 0 (by omega) ⟨rfl, rfl, rfl, rfl, rfl⟩ ⟨rfl, rfl, trivial⟩ (fun j hj => ?_)
  have hml := qnT_len (l := l.map rv) (by omega) (k := j) (by omega)
  by_cases h3 : j < l.length
  · have gy := gMem hl h3
    have hd := ref16_distancesR (l.take j) (l.getD j r0) (by rw [List.length_take]; omega) (fun r hr => (hl r (List.mem_of_mem_take hr)).up (by decide)) (gy.up (by decide))
    obtain ⟨M2, hM2⟩ : ∃ M2, qnTake (l.map rv) (j + 1) = M2 := ⟨_, rfl⟩
    have hM3 := hM2
    rw [qnTake, gRv h3, ← map_take] at hM3
    have hFl : (distQ ((l.take j).map rv) (rv (l.getD j r0))).length = j := by unfold distQ; rw [List.length_map, List.length_map, List.length_take]; omega
    clear so hb hE hq hsl hc
    generalize distQ ((l.take j).map rv) (rv (l.getD j r0)) = Fl at *
    generalize qnTake (l.map rv) j = M at *
    repeat' (first
      | (show awpL _ _ _ _ _; first | refine goL ?_ | refine cl 78 tt rfl rfl rfl (hr := hd) (k := ?_) | (refine gdLG ?_ ?_ <;> intro _ <;> try (exfalso; omega)))
      | (show awp _ _ _ _; first | refine goA ?_ | refine rg 8 9 ?_ | (refine cdG ?_ ?_ <;> intro _ <;> try (exfalso; omega)))
      | (show andThen _ _ _ _; refine goN ?_)
      | (show inBlock _ _ _ _; refine goB ?_)
      | (show awpR _ _ _ _ _ _ _; first | refine goR ?_ | refine clR 78 tt rfl rfl rfl (hr := hd) (k := ?_) | (refine gdRG ?_ ?_ <;> intro _ <;> try (exfalso; omega)))
      | (show retPost _ _ _ _ _; refine finG ?_))
    exact ⟨j + 1, by omega, by omega, ⟨rfl, rfl, ownEq (by rw [hM2, ← hM3]), iv (by omega), rfl⟩, rfl, blkEq (by rw [hM2, hM3]), trivial⟩
  · obtain rfl : j = l.length := by omega
    rw [← hE] at hml ⊢
    clear hE hq hc
    generalize qnL (l.map rv) = M at *
    have hix : ((z : Int) / 2 - 1).toNat = z / 2 - 1 := by omega
    repeat' (first
      | (show awpL _ _ _ _ _; first | refine goL ?_ | (refine gdLG ?_ ?_ <;> intro _ <;> try (exfalso; omega)))
      | (show awp _ _ _ _; first | refine stopA 10 tt ?_)
      | (show awp _ _ _ _; first | refine goA ?_ | refine rg 8 9 ?_ | (refine cdG ?_ ?_ <;> intro _ <;> try (exfalso; omega)))
      | (show andThen _ _ _ _; refine goN ?_)
      | (show inBlock _ _ _ _; refine goB ?_)
      | (show awpR _ _ _ _ _ _ _; first | refine goR ?_ | (refine gdRG ?_ ?_ <;> intro _ <;> try (exfalso; omega)))
      | (show retPost _ _ _ _ _; refine finG ?_))
    refine stopOut ?_
    refine awp_slots [(2, .ptr 2 0), (5, .own 500 0 M.length 30 3), (7, .d (.int .i64 h))] [(2, .box 30 zR3), (500, qB M)] ⟨rfl, rfl, iv (by omega), rfl⟩ ⟨rfl, rfl, trivial⟩ ?_
    clear hh
    have hix2 : ((h : Int) * ((h : Int) - 1) / 2 - 1).toNat = z / 2 - 1 := by rw [hz2]; exact hix
    repeat' (first
      | (show awpL _ _ _ _ _; first | refine goL ?_ | refine cl 26 tt rfl rfl rfl (hr := so) (k := ?_) | (refine gdLG ?_ ?_ <;> intro _ <;> try (exfalso; omega)))
      | (show awp _ _ _ _; first | refine goA ?_ | refine rg 8 9 ?_ | (refine cdG ?_ ?_ <;> intro _ <;> try (exfalso; omega)))
      | (show andThen _ _ _ _; refine goN ?_)
      | (show inBlock _ _ _ _; refine goB ?_)
      | (show awpR _ _ _ _ _ _ _; first | refine goR ?_ | refine clR 26 tt rfl rfl rfl (hr := so) (k := ?_) | (refine gdRG ?_ ?_ <;> intro _ <;> try (exfalso; omega)))
      | (show retPost _ _ _ _ _; refine finG ?_))
    all_goals rw [hix2]
end Go.Proofs.YtfnckkfbnnbmkaaGreat

set_option linter.unusedVariables false
set_option linter.unusedSimpArgs false
set_option maxHeartbeats 8000000
namespace Go.Proofs.YtfnckkfbnnbmkaaGreat
open Go.Vw
attribute [local irreducible] awp awpL awpR

theorem made_LightR (r : R3) (h : RawR r) : Ret Tryz.prog 42 [rD r] (· = .bool (lightR r)) := by
  obtain ⟨h1, h2, h3, h4⟩ := h
  unfold lightR
  obtain ⟨x, m, d⟩ := r
  simp only at h3 h4 ⊢
  rw [show decide (m.length ≤ 8) = decide ((m.length : Int) ≤ 8) from decide_eq_decide.2 (by omega), show decide (d.length ≤ 8) = decide ((d.length : Int) ≤ 8) from decide_eq_decide.2 (by omega)]
  refine ret_of_awp tab Tryz.func42 rfl rfl (Nat.le_of_ble_eq_true rfl) (fun w0 F0 => ?_)
  repeat' (first
    | (show awpL _ _ _ _ _; first | refine goL ?_ | (refine gdLG ?_ ?_ <;> intro _ <;> try (exfalso; omega)))
    | (show awp _ _ _ _; first | refine goA ?_ | (refine cdG ?_ ?_ <;> intro _ <;> try (exfalso; omega)))
    | (show andThen _ _ _ _; refine goN ?_)
    | (show inBlock _ _ _ _; refine goB ?_)
    | (show retPost _ _ _ _ _; refine finG ?_))
  all_goals first | rfl | (rename_i hc; simp [hc])
theorem all_take {l : List R3} {p : R3 → Bool} {i : Nat} (h : i < l.length) : (l.take (i + 1)).all p = ((l.take i).all p && p (l.getD i r0)) := by
  rw [List.take_add_one, List.all_append, List.getD_eq_getElem?_getD, List.getElem?_eq_getElem h]
  simp
theorem made_LightList (l : List R3) (m : Nat) (h : ∀ r ∈ l, RawR r) (hn : l.length ≤ 9223372036854775807) (hm : m < 1000000) : Ret Tryz.prog 75 [rsD l, .int .i64 m] (· = .bool (decide (l.length ≤ m) && l.all lightR)) := by
  by_cases c : l.length ≤ m
  · rw [decide_eq_true c, Bool.true_and]
    refine ret_of_awp tab Tryz.func75 rfl rfl (Nat.le_of_ble_eq_true rfl) (fun w0 F0 => ?_)
    repeat' (first
      | (show awpL _ _ _ _ _; first | refine goL ?_ | (refine gdLG ?_ ?_ <;> intro _ <;> try (exfalso; omega)))
      | (show awp _ _ _ _; first | refine goA ?_ | (refine cdG ?_ ?_ <;> intro _ <;> try (exfalso; omega)))
      | (show andThen _ _ _ _; refine goN ?_)
      | (show inBlock _ _ _ _; refine goB ?_)
      | (show retPost _ _ _ _ _; refine finG ?_))
    refine awp_loop1 (fun (i : Nat) => ([(0, .d (rsD l)), (5, .d (.int .i64 i))], [])) (fun i => i ≤ l.length ∧ (l.take i).all lightR = true) (fun i => l.length - i) 0 ⟨by omega, rfl⟩ ⟨rfl, rfl, rfl⟩ trivial (fun i hi => ?_)
    obtain ⟨i1, i2⟩ := hi
    by_cases h3 : i < l.length
    · have g1 := gMem h h3
      have lt := made_LightR (l.getD i r0) g1
      have e := all_take (p := lightR) h3
      rw [i2, Bool.true_and] at e
      cases hb : lightR (l.getD i r0)
      · rw [hb] at lt e
        have : l.all lightR = false := by
          rw [← List.take_append_drop (i + 1) l, List.all_append, e, Bool.false_and]
        rw [this]
        clear h g1
        repeat' (first
          | (show awpL _ _ _ _ _; first | refine goL ?_ | refine cl 42 tt rfl rfl rfl (hr := lt) (k := ?_) | (refine gdLG ?_ ?_ <;> intro _ <;> try (exfalso; omega)))
          | (show awp _ _ _ _; first | refine goA ?_ | (refine cdG ?_ ?_ <;> intro _ <;> try (exfalso; omega)))
          | (show andThen _ _ _ _; refine goN ?_)
          | (show inBlock _ _ _ _; refine goB ?_)
          | (show retPost _ _ _ _ _; refine finG ?_))
        all_goals rfl
      · rw [hb] at lt e
        clear h g1
        repeat' (first
          | (show awpL _ _ _ _ _; first | refine goL ?_ | refine cl 42 tt rfl rfl rfl (hr := lt) (k := ?_) | (refine gdLG ?_ ?_ <;> intro _ <;> try (exfalso; omega)))
          | (show awp _ _ _ _; first | refine goA ?_ | (refine cdG ?_ ?_ <;> intro _ <;> try (exfalso; omega)))
          | (show andThen _ _ _ _; refine goN ?_)
          | (show inBlock _ _ _ _; refine goB ?_)
          | (show retPost _ _ _ _ _; refine finG ?_))
        exact ⟨i + 1, ⟨by omega, e⟩, by omega, ⟨rfl, iv (by omega), rfl⟩, trivial⟩
    · have e : l.take i = l := List.take_of_length_le (by omega)
      rw [e] at i2
      rw [i2]
      repeat' (first
        | (show awpL _ _ _ _ _; first | refine goL ?_ | (refine gdLG ?_ ?_ <;> intro _ <;> try (exfalso; omega)))
        | (show awp _ _ _ _; first | refine goA ?_ | (refine cdG ?_ ?_ <;> intro _ <;> try (exfalso; omega)))
        | (show andThen _ _ _ _; refine goN ?_)
        | (show inBlock _ _ _ _; refine goB ?_)
        | (show retPost _ _ _ _ _; refine finG ?_))
      all_goals rfl
  · rw [decide_eq_false c, Bool.false_and]
    refine ret_of_awp tab Tryz.func75 rfl rfl (Nat.le_of_ble_eq_true rfl) (fun w0 F0 => ?_)
    repeat' (first
      | (show awpL _ _ _ _ _; first | refine goL ?_ | (refine gdLG ?_ ?_ <;> intro _ <;> try (exfalso; omega)))
      | (show awp _ _ _ _; first | refine goA ?_ | (refine cdG ?_ ?_ <;> intro _ <;> try (exfalso; omega)))
      | (show andThen _ _ _ _; refine goN ?_)
      | (show inBlock _ _ _ _; refine goB ?_)
      | (show retPost _ _ _ _ _; refine finG ?_))
    all_goals rfl
def lightLs (l : List R3) (m : Nat) : Bool := decide (l.length ≤ m) && l.all lightR
theorem law16_light (l : List R3) (h : ∀ r ∈ l, RawR r) (hn : l.length ≤ 9223372036854775807) : Ret Tryz.prog 32 [rsD l] (· = .bool (lightLs l 12)) := by
  have hl : Ret Tryz.prog 75 [rsD l, .int .i64 12] (· = .bool (lightLs l 12)) := made_LightList l 12 h hn (by decide)
  generalize lightLs l 12 = b at *
  refine ret_of_awp tab Tryz.func32 rfl rfl (Nat.le_of_ble_eq_true rfl) (fun w0 F0 => ?_)
  repeat' (first
    | (show awpL _ _ _ _ _; first | refine goL ?_ | refine cl 75 tt rfl rfl rfl (hr := hl) (k := ?_) | (refine gdLG ?_ ?_ <;> intro _ <;> try (exfalso; omega)))
    | (show awp _ _ _ _; first | refine goA ?_ | (refine cdG ?_ ?_ <;> intro _ <;> try (exfalso; omega)))
    | (show andThen _ _ _ _; refine goN ?_)
    | (show inBlock _ _ _ _; refine goB ?_)
    | (show retPost _ _ _ _ _; refine finG ?_))
  rfl
theorem light_of {l : List R3} {m : Nat} (h : ∀ r ∈ l, RawR r) (hl : lightLs l m = true) : l.length ≤ m ∧ ∀ r ∈ l, RatOk r 9 := by
  unfold lightLs at hl
  rw [Bool.and_eq_true, decide_eq_true_eq, List.all_eq_true] at hl
  exact ⟨hl.1, fun r hr => (h r hr).light (hl.2 r hr)⟩
theorem ref16_Median (l : List R3) (h0 : 0 < l.length) (hn : l.length ≤ 200) (hl : ∀ r ∈ l, RatOk r 1000) : Ret Tryz.prog 43 [rsD l] (· = .tup [qD (medLo (l.map rv)), qD (medHi (l.map rv)), .int .i64 0]) := by
  have hc := ref16_check l 1 (by omega)
  rw [show chkO l.length 1 = 0 by unfold chkO; rw [if_neg (by omega), if_neg (by omega)]] at hc
  have hm := ref16_medians l h0 hn hl
  generalize medLo (l.map rv) = a at *
  generalize medHi (l.map rv) = b at *
  refine ret_of_awp tab Tryz.func43 rfl rfl (Nat.le_of_ble_eq_true rfl) (fun w0 F0 => ?_)
  repeat' (first
    | (show awpL _ _ _ _ _; first | refine goL ?_ | refine cl 81 tt rfl rfl rfl (hr := hc) (k := ?_) | refine cl 77 tt rfl rfl rfl (hr := hm) (k := ?_) | (refine gdLG ?_ ?_ <;> intro _ <;> try (exfalso; omega)))
    | (show awp _ _ _ _; first | refine goA ?_ | refine rgX 5 3 [] ?_ | (refine cdG ?_ ?_ <;> intro _ <;> try (exfalso; omega)))
    | (show andThen _ _ _ _; refine goN ?_)
    | (show inBlock _ _ _ _; refine goB ?_)
    | (show awpR _ _ _ _ _ _ _; first | refine goR ?_ | refine clR 81 tt rfl rfl rfl (hr := hc) (k := ?_) | refine clR 77 tt rfl rfl rfl (hr := hm) (k := ?_) | (refine gdRG ?_ ?_ <;> intro _ <;> try (exfalso; omega)))
    | (show retPost _ _ _ _ _; refine finG ?_))
  rfl
theorem ref16_halfQ (x y : Rat) (hx : okQ 1000 x) (hy : okQ 1000 y) : Ret Tryz.prog 79 [qD x, qD y] (· = qD ((x + y) / 2)) := by
  have := ref16_half (rq x) (rq y) (ok_rq hx) (ok_rq hy)
  rw [rv_rq, rv_rq] at this
  exact this
theorem med_ok {l : List R3} (h0 : 0 < l.length) (hl : ∀ r ∈ l, RatOk r 1000) : okQ 1000 (medLo (l.map rv)) ∧ okQ 1000 (medHi (l.map rv)) := by
  have ho := srt_ok (mapq_ok hl)
  have hlen := srt_len (l.map rv)
  rw [List.length_map] at hlen
  unfold medLo medHi
  exact ⟨getD_ok ho (by rw [List.length_map]; omega), getD_ok ho (by rw [List.length_map]; omega)⟩
theorem ref16_Middle (l : List R3) (h0 : 0 < l.length) (hn : l.length ≤ 200) (hl : ∀ r ∈ l, RatOk r 1000) : Ret Tryz.prog 44 [rsD l] (· = .tup [qD (midQ (l.map rv)), .int .i64 0]) := by
  have hm := ref16_Median l h0 hn hl
  obtain ⟨o1, o2⟩ := med_ok h0 hl
  have hh := ref16_halfQ _ _ o1 o2
  unfold midQ
  generalize medLo (l.map rv) = a at *
  generalize medHi (l.map rv) = b at *
  generalize (a + b) / 2 = m at *
  refine ret_of_awp tab Tryz.func44 rfl rfl (Nat.le_of_ble_eq_true rfl) (fun w0 F0 => ?_)
  repeat' (first
    | (show awpL _ _ _ _ _; first | refine goL ?_ | refine cl 43 tt rfl rfl rfl (hr := hm) (k := ?_) | refine cl 79 tt rfl rfl rfl (hr := hh) (k := ?_) | (refine gdLG ?_ ?_ <;> intro _ <;> try (exfalso; omega)))
    | (show awp _ _ _ _; first | refine goA ?_ | (refine cdG ?_ ?_ <;> intro _ <;> try (exfalso; omega)))
    | (show andThen _ _ _ _; refine goN ?_)
    | (show inBlock _ _ _ _; refine goB ?_)
    | (show retPost _ _ _ _ _; refine finG ?_))
  rfl
theorem ref16_Deviation (l : List R3) (h0 : 0 < l.length) (hn : l.length ≤ 200) (hl : ∀ r ∈ l, RatOk r 100) : Ret Tryz.prog 34 [rsD l] (· = .tup [qD (midQ (distQ (l.map rv) (midQ (l.map rv)))), .int .i64 0]) := by
  have hl2 : ∀ r ∈ l, RatOk r 1000 := fun r hr => (hl r hr).up (by decide)
  have hm := ref16_Middle l h0 hn hl2
  have hq : ∀ q ∈ l.map rv, okQ 100 q := fun q hq => by
    obtain ⟨r, hr, rfl⟩ := List.mem_map.1 hq
    exact okQ_rv (hl r hr) (by decide)
  have km := midQ_ok hq (by rw [List.length_map]; exact h0)
  have hd := ref16_distancesR l (rq (midQ (l.map rv))) hn hl2 (ok_rq (km.mono (by decide)))
  rw [rv_rq] at hd
  have kd : ∀ q ∈ distQ (l.map rv) (midQ (l.map rv)), okQ 1000 q := fun q hq2 => by
    obtain ⟨x, hx, rfl⟩ := List.mem_map.1 hq2
    exact (absQ_ok ((hq x hx).sub km)).mono (by decide)
  have kd2 : ∀ r ∈ (distQ (l.map rv) (midQ (l.map rv))).map rq, RatOk r 1000 := fun r hr => by
    obtain ⟨q, hq2, rfl⟩ := List.mem_map.1 hr
    exact ok_rq (kd q hq2)
  have hdl : ((distQ (l.map rv) (midQ (l.map rv))).map rq).length = l.length := by simp [distQ]
  have h2 := ref16_medians _ (by omega) (by omega) kd2
  obtain ⟨o1, o2⟩ := med_ok (by omega) kd2
  rw [mapRvRq] at h2 o1 o2
  have h3 := h2.args (LeT.cons (leRsQ2 _) LeT.nil)
  have hh := ref16_halfQ _ _ o1 o2
  clear h2 kd kd2 hdl hq hl2 o1 o2 km
  generalize distQ (l.map rv) (midQ (l.map rv)) = b at *
  generalize midQ (l.map rv) = c at *
  rw [show midQ b = (medLo b + medHi b) / 2 from rfl]
  generalize medLo b = x at *
  generalize medHi b = y at *
  generalize (x + y) / 2 = z at *
  refine ret_of_awp tab Tryz.func34 rfl rfl (Nat.le_of_ble_eq_true rfl) (fun w0 F0 => ?_)
  repeat' (first
    | (show awpL _ _ _ _ _; first | refine goL ?_ | refine cl 44 tt rfl rfl rfl (hr := hm) (k := ?_) | refine cl 78 tt rfl rfl rfl (hr := hd) (k := ?_) | refine cl 77 tt rfl rfl rfl (hr := h3) (k := ?_) | refine cl 79 tt rfl rfl rfl (hr := hh) (k := ?_) | (refine gdLG ?_ ?_ <;> intro _ <;> try (exfalso; omega)))
    | (show awp _ _ _ _; first | refine goA ?_ | (refine cdG ?_ ?_ <;> intro _ <;> try (exfalso; omega)))
    | (show andThen _ _ _ _; refine goN ?_)
    | (show inBlock _ _ _ _; refine goB ?_)
    | (show retPost _ _ _ _ _; refine finG ?_))
  rfl
theorem ceil_lo {x : Rat} {n : Nat} (hn : 0 < n) (h0 : 0 ≤ x) (h1 : x ≤ ((n : Int) : Rat)) : 0 ≤ -(-x).floor ∧ -(-x).floor ≤ n ∧ (min (max (-(-x).floor) 1) (n : Int) - 1) = (min (if 0 < x.floor ∧ x = (x.floor : Int) then x.floor - 1 else x.floor) ((n : Int) - 1)) := by
  have f1 := Rat.floor_le x
  have f2 := Rat.lt_floor_add_one x
  have g1 := Rat.floor_le (-x)
  have g2 := Rat.lt_floor_add_one (-x)
  have fn := nonneg_floor h0
  have fm := floor_le_nat h1
  generalize (-x).floor = c at *
  generalize x.floor = f at *
  have e1 : ((c : Int) : Rat) ≤ ((-f : Int) : Rat) := by
    have : ((-f : Int) : Rat) = -(f : Rat) := Rat.intCast_neg f
    rw [this]; grind
  have e1 := Rat.intCast_le_intCast.1 e1
  have e2 : ((-f - 1 : Int) : Rat) < ((c + 1 : Int) : Rat) := by
    rw [Rat.intCast_sub, Rat.intCast_neg, Rat.intCast_add, show ((1 : Int) : Rat) = 1 from rfl]; grind
  have e2 := Rat.intCast_lt_intCast.1 e2
  by_cases hx : x = (f : Rat)
  · have e3 : c = -f := by
      have h3 : ((-f : Int) : Rat) < ((c + 1 : Int) : Rat) := by
        rw [Rat.intCast_neg, Rat.intCast_add, show ((1 : Int) : Rat) = 1 from rfl]; grind
      have := Rat.intCast_lt_intCast.1 h3
      omega
    subst e3
    by_cases hf : 0 < f
    · rw [if_pos ⟨hf, hx⟩]; omega
    · rw [if_neg (fun h => hf h.1)]; omega
  · have e3 : c = -f - 1 := by
      have h3 : ((c : Int) : Rat) < ((-f : Int) : Rat) := by
        rw [Rat.intCast_neg]
        have : (f : Rat) < x := by grind
        grind
      have := Rat.intCast_lt_intCast.1 h3
      omega
    have hfn : f < n := by
      have h3 : ((f : Int) : Rat) < ((n : Int) : Rat) := by
        have : (f : Rat) < x := by grind
        grind
      exact Rat.intCast_lt_intCast.1 h3
    subst e3
    rw [if_neg (fun h => hx h.2)]
    omega
theorem ref16_Quantile (l : List R3) (p : R3) (h0 : 0 < l.length) (hn : l.length ≤ 200) (hl : ∀ r ∈ l, RatOk r 1000) (hp : RatOk p 1000) (p0 : 0 ≤ rv p) (p1 : rv p ≤ 1) : Ret Tryz.prog 45 [rsD l, rD p] (· = .tup [qD (qLo (l.map rv) (rv p)), qD (qHi (l.map rv) (rv p)), .int .i64 0]) := by
  have hc := ref16_check l 1 (by omega)
  rw [show chkO l.length 1 = 0 by unfold chkO; rw [if_neg (by omega), if_neg (by omega)]] at hc
  have sg := ref03_Sign p (hp.up (by decide))
  have hs0 : 0 ≤ (rv p).num.sign := Int.sign_nonneg_iff.2 (Rat.num_nonneg.2 p0)
  have f1 := ref03_FromIntW 1 (by decide) (by decide)
  rw [show ((1 : Int) : Rat) = 1 from rfl] at f1
  have c1 := ref03_Less (rq 1) p (ok_rq (okQ_one.mono (by decide))) (hp.up (by decide))
  rw [rv_rq, decide_eq_false (Rat.not_lt.2 p1)] at c1
  have hs := ref16_Sort l hn hl
  have hlen := srt_len (l.map rv)
  rw [List.length_map] at hlen
  have kp : okQ 1000 (rv p) := okQ_rv hp (by decide)
  have kn : okQ 10 ((l.length : Int) : Rat) := ok_intW (by omega)
  have fn := ref03_FromIntW (l.length : Int) (by omega) (by omega)
  have mu := ref03_Mul p (rq ((l.length : Int) : Rat)) (hp.up (by decide)) (ok_rq (kn.mono (by decide)))
  rw [rv_rq] at mu
  have b0 := mul_nat_nonneg l.length p0
  have b1 := mul_nat_le l.length p1
  have bn := floor_le_nat b1
  have b2 := nonneg_floor b0
  obtain ⟨q1, q2, q3⟩ := ceil_lo h0 b0 b1
  unfold qLo qHi qFirst
  rw [List.length_map, ← q3]
  have kat := kp.mul kn
  have fl := ref03_FloorQ (rv p * ((l.length : Int) : Rat)) (kat.mono (by decide))
  have ng := ref03_NegQ (rv p * ((l.length : Int) : Rat)) (kat.mono (by decide))
  have fl2 := ref03_FloorQ (-(rv p * ((l.length : Int) : Rat))) (kat.neg.mono (by decide))
  generalize rv p * ((l.length : Int) : Rat) = x at *
  generalize ((l.length : Int) : Rat) = nq at *
  generalize -x = nx at *
  generalize x.floor = f at *
  generalize nx.floor = c at *
  obtain ⟨k, rfl⟩ : ∃ m : Nat, f = m := ⟨f.toNat, by omega⟩
  obtain ⟨u, hu⟩ : ∃ m : Nat, -c = m := ⟨(-c).toNat, by omega⟩
  have hcu : c = -(u : Int) := by omega
  subst hcu
  have lz : (limbs (-(u : Int)).natAbs).length < 100000000000 := by
    rw [show (-(u : Int)).natAbs = u by omega]
    exact Nat.lt_of_le_of_lt (u64_len (v := u) (by omega)) (by decide)
  have nz := ref02_NegZ (-(u : Int)) lz
  rw [Int.neg_neg] at nz q1 q2 q3 ⊢
  have t1 := ref02_ToIntN k (by omega)
  have t2 := ref02_ToIntN u (by omega)
  generalize srt (l.map rv) = s at *
  generalize (1 : Rat) = one at *
  generalize (rv p).num.sign = sp at *
  clear p0 p1 b0 b1 kp kn kat lz q3 hu
  refine ret_of_awp tab Tryz.func45 rfl rfl (Nat.le_of_ble_eq_true rfl) (fun w0 F0 => ?_)
  repeat' (first
    | (show awpL _ _ _ _ _; first | refine goL ?_ | refine cl 81 tt rfl rfl rfl (hr := hc) (k := ?_) | refine cl 52 tt rfl rfl rfl (hr := sg) (k := ?_) | refine cl 19 tt rfl rfl rfl (hr := f1) (k := ?_) | refine cl 22 tt rfl rfl rfl (hr := c1) (k := ?_) | refine cl 26 tt rfl rfl rfl (hr := hs) (k := ?_) | refine cl 19 tt rfl rfl rfl (hr := fn) (k := ?_) | refine cl 17 tt rfl rfl rfl (hr := mu) (k := ?_) | refine cl 85 tt rfl rfl rfl (hr := fl) (k := ?_) | refine cl 84 tt rfl rfl rfl (hr := t1) (k := ?_) | refine cl 60 tt rfl rfl rfl (hr := ng) (k := ?_) | refine cl 85 tt rfl rfl rfl (hr := fl2) (k := ?_) | refine cl 86 tt rfl rfl rfl (hr := nz) (k := ?_) | refine cl 84 tt rfl rfl rfl (hr := t2) (k := ?_) | (refine gdLG ?_ ?_ <;> intro _ <;> try (exfalso; omega)))
    | (show awp _ _ _ _; first | refine goA ?_ | refine rg 4 6 ?_ | refine rgK 8 5 [10] ?_ | refine rgX 11 17 [] ?_ | (refine cdG ?_ ?_ <;> intro _ <;> try (exfalso; omega)))
    | (show andThen _ _ _ _; refine goN ?_)
    | (show inBlock _ _ _ _; refine goB ?_)
    | (show awpR _ _ _ _ _ _ _; first | refine goR ?_ | refine clR 81 tt rfl rfl rfl (hr := hc) (k := ?_) | refine clR 52 tt rfl rfl rfl (hr := sg) (k := ?_) | refine clR 19 tt rfl rfl rfl (hr := f1) (k := ?_) | refine clR 22 tt rfl rfl rfl (hr := c1) (k := ?_) | refine clR 26 tt rfl rfl rfl (hr := hs) (k := ?_) | refine clR 19 tt rfl rfl rfl (hr := fn) (k := ?_) | refine clR 17 tt rfl rfl rfl (hr := mu) (k := ?_) | refine clR 85 tt rfl rfl rfl (hr := fl) (k := ?_) | refine clR 84 tt rfl rfl rfl (hr := t1) (k := ?_) | refine clR 60 tt rfl rfl rfl (hr := ng) (k := ?_) | refine clR 85 tt rfl rfl rfl (hr := fl2) (k := ?_) | refine clR 86 tt rfl rfl rfl (hr := nz) (k := ?_) | refine clR 84 tt rfl rfl rfl (hr := t2) (k := ?_) | (refine gdRG ?_ ?_ <;> intro _ <;> try (exfalso; omega)))
    | (show retPost _ _ _ _ _; refine finG ?_))
  all_goals rw [hlen, show (min ((k : Int) + 1) (l.length : Int) - 1).toNat = (min (k : Int) ((l.length : Int) - 1)).toNat by omega]
end Go.Proofs.YtfnckkfbnnbmkaaGreat

set_option linter.unusedVariables false
set_option linter.unusedSimpArgs false
set_option maxHeartbeats 8000000
namespace Go.Proofs.YtfnckkfbnnbmkaaGreat
open Go.Vw
attribute [local irreducible] awp awpL awpR

theorem half_r0 : qD ((rv r0 + rv r0) / 2) = rD r0 := by
  rw [rv_r0, show ((0 : Rat) + 0) / 2 = 0 by decide +kernel]
  show rD (rq 0) = _
  rw [rq_zero]
theorem okRof {x : Rat} (h : okQ 100000000 x) : okR 100000000000 (rq x) := ⟨Nat.lt_trans (ok_rq h).lm (by decide), Nat.lt_trans (ok_rq h).ld (by decide)⟩
theorem okR_r0 : okR 100000000000 r0 := by rw [← rq_zero]; exact okRof (okQ_zero (by decide))
theorem same_r0 : Ret Tryz.prog 21 [rD r0, rD r0] (· = .bool true) := by
  have := ref03_Same r0 r0 okR_r0 okR_r0
  rw [decide_eq_true rfl] at this
  exact this
theorem sameList_Q (s : List Rat) (hn : s.length < 100000000000) (hs : ∀ q ∈ s, okQ 100000000 q) : Ret Tryz.prog 46 [qsD s, qsD s] (· = .bool true) := by
  have hl : ∀ r ∈ s.map rq, okR 100000000000 r := fun r hr => by
    obtain ⟨q, hq, rfl⟩ := List.mem_map.1 hr
    exact okRof (hs q hq)
  have := ref03_SameList (s.map rq) (s.map rq) (by rw [List.length_map]; exact hn) (by rw [List.length_map]; exact hn) hl hl
  rw [decide_eq_true rfl] at this
  exact this.args (LeT.cons (leRsQ2 _) (LeT.cons (leRsQ2 _) LeT.nil))
theorem order_MedianE (l : List R3) (h0 : l.length < 1) : Ret Tryz.prog 14 [rsD l] (· = .tup [rD r0, rD r0, .int .i64 10]) := by
  have hc := order_check l 1 (by omega)
  rw [show chkO l.length 1 = 10 by unfold chkO; rw [if_pos (by omega)]] at hc
  refine ret_of_awp tab Tryz.func14 rfl rfl (Nat.le_of_ble_eq_true rfl) (fun w0 F0 => ?_)
  repeat' (first
    | (show awpL _ _ _ _ _; first | refine goL ?_ | refine cl 53 tt rfl rfl rfl (hr := hc) (k := ?_) | (refine gdLG ?_ ?_ <;> intro _ <;> try (exfalso; omega)))
    | (show awp _ _ _ _; first | refine goA ?_ | refine rgX 5 3 [] ?_ | (refine cdG ?_ ?_ <;> intro _ <;> try (exfalso; omega)))
    | (show andThen _ _ _ _; refine goN ?_)
    | (show inBlock _ _ _ _; refine goB ?_)
    | (show awpR _ _ _ _ _ _ _; first | refine goR ?_ | refine clR 53 tt rfl rfl rfl (hr := hc) (k := ?_) | (refine gdRG ?_ ?_ <;> intro _ <;> try (exfalso; omega)))
    | (show retPost _ _ _ _ _; refine finTG ?_))
  exact leT
theorem order_MiddleE (l : List R3) (h0 : l.length < 1) : Ret Tryz.prog 27 [rsD l] (· = .tup [rD r0, .int .i64 10]) := by
  have hc := order_check l 1 (by omega)
  rw [show chkO l.length 1 = 10 by unfold chkO; rw [if_pos (by omega)]] at hc
  refine ret_of_awp tab Tryz.func27 rfl rfl (Nat.le_of_ble_eq_true rfl) (fun w0 F0 => ?_)
  repeat' (first
    | (show awpL _ _ _ _ _; first | refine goL ?_ | refine cl 53 tt rfl rfl rfl (hr := hc) (k := ?_) | (refine gdLG ?_ ?_ <;> intro _ <;> try (exfalso; omega)))
    | (show awp _ _ _ _; first | refine goA ?_ | (refine cdG ?_ ?_ <;> intro _ <;> try (exfalso; omega)))
    | (show andThen _ _ _ _; refine goN ?_)
    | (show inBlock _ _ _ _; refine goB ?_)
    | (show retPost _ _ _ _ _; refine finTG ?_))
  exact leT
theorem order_QuantileE (l : List R3) (p : R3) (h0 : l.length < 1) : Ret Tryz.prog 29 [rsD l, rD p] (· = .tup [rD r0, rD r0, .int .i64 10]) := by
  have hc := order_check l 1 (by omega)
  rw [show chkO l.length 1 = 10 by unfold chkO; rw [if_pos (by omega)]] at hc
  refine ret_of_awp tab Tryz.func29 rfl rfl (Nat.le_of_ble_eq_true rfl) (fun w0 F0 => ?_)
  repeat' (first
    | (show awpL _ _ _ _ _; first | refine goL ?_ | refine cl 53 tt rfl rfl rfl (hr := hc) (k := ?_) | (refine gdLG ?_ ?_ <;> intro _ <;> try (exfalso; omega)))
    | (show awp _ _ _ _; first | refine goA ?_ | refine rg 4 6 ?_ | refine rgK 7 5 [10] ?_ | refine rg 10 6 ?_ | refine rg 12 16 ?_ | (refine cdG ?_ ?_ <;> intro _ <;> try (exfalso; omega)))
    | (show andThen _ _ _ _; refine goN ?_)
    | (show inBlock _ _ _ _; refine goB ?_)
    | (show awpR _ _ _ _ _ _ _; first | refine goR ?_ | refine clR 53 tt rfl rfl rfl (hr := hc) (k := ?_) | (refine gdRG ?_ ?_ <;> intro _ <;> try (exfalso; omega)))
    | (show retPost _ _ _ _ _; refine finTG ?_))
  exact leT
theorem order_DeviationE (l : List R3) (h0 : l.length < 1) : Ret Tryz.prog 33 [rsD l] (· = .tup [rD r0, .int .i64 10]) := by
  have hc := order_check l 1 (by omega)
  rw [show chkO l.length 1 = 10 by unfold chkO; rw [if_pos (by omega)]] at hc
  refine ret_of_awp tab Tryz.func33 rfl rfl (Nat.le_of_ble_eq_true rfl) (fun w0 F0 => ?_)
  repeat' (first
    | (show awpL _ _ _ _ _; first | refine goL ?_ | refine cl 53 tt rfl rfl rfl (hr := hc) (k := ?_) | (refine gdLG ?_ ?_ <;> intro _ <;> try (exfalso; omega)))
    | (show awp _ _ _ _; first | refine goA ?_ | (refine cdG ?_ ?_ <;> intro _ <;> try (exfalso; omega)))
    | (show andThen _ _ _ _; refine goN ?_)
    | (show inBlock _ _ _ _; refine goB ?_)
    | (show retPost _ _ _ _ _; refine finTG ?_))
  exact leT
theorem order_HodgesLehmannE (l : List R3) (h0 : l.length < 1) : Ret Tryz.prog 35 [rsD l] (· = .tup [rD r0, rD r0, .int .i64 10]) := by
  have hc := order_check l 1 (by omega)
  rw [show chkO l.length 1 = 10 by unfold chkO; rw [if_pos (by omega)]] at hc
  refine ret_of_awp tab Tryz.func35 rfl rfl (Nat.le_of_ble_eq_true rfl) (fun w0 F0 => ?_)
  repeat' (first
    | (show awpL _ _ _ _ _; first | refine goL ?_ | refine cl 53 tt rfl rfl rfl (hr := hc) (k := ?_) | (refine gdLG ?_ ?_ <;> intro _ <;> try (exfalso; omega)))
    | (show awp _ _ _ _; first | refine goA ?_ | refine rgX 15 3 [] ?_ | (refine cdG ?_ ?_ <;> intro _ <;> try (exfalso; omega)))
    | (show andThen _ _ _ _; refine goN ?_)
    | (show inBlock _ _ _ _; refine goB ?_)
    | (show awpR _ _ _ _ _ _ _; first | refine goR ?_ | refine clR 53 tt rfl rfl rfl (hr := hc) (k := ?_) | (refine gdRG ?_ ?_ <;> intro _ <;> try (exfalso; omega)))
    | (show retPost _ _ _ _ _; refine finTG ?_))
  exact leT
theorem order_QnE (l : List R3) (h0 : l.length < 2) : Ret Tryz.prog 37 [rsD l] (· = .tup [rD r0, .int .i64 10]) := by
  have hc := order_check l 2 (by omega)
  rw [show chkO l.length 2 = 10 by unfold chkO; rw [if_pos (by omega)]] at hc
  refine ret_of_awp tab Tryz.func37 rfl rfl (Nat.le_of_ble_eq_true rfl) (fun w0 F0 => ?_)
  repeat' (first
    | (show awpL _ _ _ _ _; first | refine goL ?_ | refine cl 53 tt rfl rfl rfl (hr := hc) (k := ?_) | (refine gdLG ?_ ?_ <;> intro _ <;> try (exfalso; omega)))
    | (show awp _ _ _ _; first | refine goA ?_ | refine rg 8 6 ?_ | (refine cdG ?_ ?_ <;> intro _ <;> try (exfalso; omega)))
    | (show andThen _ _ _ _; refine goN ?_)
    | (show inBlock _ _ _ _; refine goB ?_)
    | (show awpR _ _ _ _ _ _ _; first | refine goR ?_ | refine clR 53 tt rfl rfl rfl (hr := hc) (k := ?_) | (refine gdRG ?_ ?_ <;> intro _ <;> try (exfalso; omega)))
    | (show retPost _ _ _ _ _; refine finTG ?_))
  exact leT
theorem ref16_MedianE (l : List R3) (h0 : l.length < 1) : Ret Tryz.prog 43 [rsD l] (· = .tup [rD r0, rD r0, .int .i64 10]) := by
  have hc := ref16_check l 1 (by omega)
  rw [show chkO l.length 1 = 10 by unfold chkO; rw [if_pos (by omega)]] at hc
  refine ret_of_awp tab Tryz.func43 rfl rfl (Nat.le_of_ble_eq_true rfl) (fun w0 F0 => ?_)
  repeat' (first
    | (show awpL _ _ _ _ _; first | refine goL ?_ | refine cl 81 tt rfl rfl rfl (hr := hc) (k := ?_) | (refine gdLG ?_ ?_ <;> intro _ <;> try (exfalso; omega)))
    | (show awp _ _ _ _; first | refine goA ?_ | refine rgX 5 3 [] ?_ | (refine cdG ?_ ?_ <;> intro _ <;> try (exfalso; omega)))
    | (show andThen _ _ _ _; refine goN ?_)
    | (show inBlock _ _ _ _; refine goB ?_)
    | (show awpR _ _ _ _ _ _ _; first | refine goR ?_ | refine clR 81 tt rfl rfl rfl (hr := hc) (k := ?_) | (refine gdRG ?_ ?_ <;> intro _ <;> try (exfalso; omega)))
    | (show retPost _ _ _ _ _; refine finTG ?_))
  exact leT
theorem ref16_MiddleE (l : List R3) (h0 : l.length < 1) : Ret Tryz.prog 44 [rsD l] (· = .tup [rD r0, .int .i64 10]) := by
  have hc := ref16_check l 1 (by omega)
  rw [show chkO l.length 1 = 10 by unfold chkO; rw [if_pos (by omega)]] at hc
  have hm := ref16_MedianE l h0
  have hh := ref16_half r0 r0 (ok_r0 (by decide)) (ok_r0 (by decide))
  rw [half_r0] at hh
  refine ret_of_awp tab Tryz.func44 rfl rfl (Nat.le_of_ble_eq_true rfl) (fun w0 F0 => ?_)
  repeat' (first
    | (show awpL _ _ _ _ _; first | refine goL ?_ | refine cl 43 tt rfl rfl rfl (hr := hm) (k := ?_) | refine cl 79 tt rfl rfl rfl (hr := hh) (k := ?_) | (refine gdLG ?_ ?_ <;> intro _ <;> try (exfalso; omega)))
    | (show awp _ _ _ _; first | refine goA ?_ | (refine cdG ?_ ?_ <;> intro _ <;> try (exfalso; omega)))
    | (show andThen _ _ _ _; refine goN ?_)
    | (show inBlock _ _ _ _; refine goB ?_)
    | (show retPost _ _ _ _ _; refine finTG ?_))
  exact leT
theorem ref16_QuantileE (l : List R3) (p : R3) (h0 : l.length < 1) : Ret Tryz.prog 45 [rsD l, rD p] (· = .tup [rD r0, rD r0, .int .i64 10]) := by
  have hc := ref16_check l 1 (by omega)
  rw [show chkO l.length 1 = 10 by unfold chkO; rw [if_pos (by omega)]] at hc
  refine ret_of_awp tab Tryz.func45 rfl rfl (Nat.le_of_ble_eq_true rfl) (fun w0 F0 => ?_)
  repeat' (first
    | (show awpL _ _ _ _ _; first | refine goL ?_ | refine cl 81 tt rfl rfl rfl (hr := hc) (k := ?_) | (refine gdLG ?_ ?_ <;> intro _ <;> try (exfalso; omega)))
    | (show awp _ _ _ _; first | refine goA ?_ | refine rg 4 6 ?_ | refine rgK 8 5 [10] ?_ | refine rgX 11 17 [] ?_ | (refine cdG ?_ ?_ <;> intro _ <;> try (exfalso; omega)))
    | (show andThen _ _ _ _; refine goN ?_)
    | (show inBlock _ _ _ _; refine goB ?_)
    | (show awpR _ _ _ _ _ _ _; first | refine goR ?_ | refine clR 81 tt rfl rfl rfl (hr := hc) (k := ?_) | (refine gdRG ?_ ?_ <;> intro _ <;> try (exfalso; omega)))
    | (show retPost _ _ _ _ _; refine finTG ?_))
  exact leT
theorem ref16_DeviationE (l : List R3) (h0 : l.length < 1) : Ret Tryz.prog 34 [rsD l] (· = .tup [rD r0, .int .i64 10]) := by
  have hc := ref16_check l 1 (by omega)
  rw [show chkO l.length 1 = 10 by unfold chkO; rw [if_pos (by omega)]] at hc
  have hm := ref16_MiddleE l h0
  refine ret_of_awp tab Tryz.func34 rfl rfl (Nat.le_of_ble_eq_true rfl) (fun w0 F0 => ?_)
  repeat' (first
    | (show awpL _ _ _ _ _; first | refine goL ?_ | refine cl 44 tt rfl rfl rfl (hr := hm) (k := ?_) | (refine gdLG ?_ ?_ <;> intro _ <;> try (exfalso; omega)))
    | (show awp _ _ _ _; first | refine goA ?_ | (refine cdG ?_ ?_ <;> intro _ <;> try (exfalso; omega)))
    | (show andThen _ _ _ _; refine goN ?_)
    | (show inBlock _ _ _ _; refine goB ?_)
    | (show retPost _ _ _ _ _; refine finTG ?_))
  exact leT
theorem ref16_HodgesLehmannE (l : List R3) (h0 : l.length < 1) : Ret Tryz.prog 36 [rsD l] (· = .tup [rD r0, rD r0, .int .i64 10]) := by
  have hc := ref16_check l 1 (by omega)
  rw [show chkO l.length 1 = 10 by unfold chkO; rw [if_pos (by omega)]] at hc
  refine ret_of_awp tab Tryz.func36 rfl rfl (Nat.le_of_ble_eq_true rfl) (fun w0 F0 => ?_)
  repeat' (first
    | (show awpL _ _ _ _ _; first | refine goL ?_ | refine cl 81 tt rfl rfl rfl (hr := hc) (k := ?_) | (refine gdLG ?_ ?_ <;> intro _ <;> try (exfalso; omega)))
    | (show awp _ _ _ _; first | refine goA ?_ | refine rg 11 11 ?_ | refine rgX 13 3 [] ?_ | (refine cdG ?_ ?_ <;> intro _ <;> try (exfalso; omega)))
    | (show andThen _ _ _ _; refine goN ?_)
    | (show inBlock _ _ _ _; refine goB ?_)
    | (show awpR _ _ _ _ _ _ _; first | refine goR ?_ | refine clR 81 tt rfl rfl rfl (hr := hc) (k := ?_) | (refine gdRG ?_ ?_ <;> intro _ <;> try (exfalso; omega)))
    | (show retPost _ _ _ _ _; refine finTG ?_))
  exact leT
theorem ref16_QnE (l : List R3) (h0 : l.length < 2) : Ret Tryz.prog 38 [rsD l] (· = .tup [rD r0, .int .i64 10]) := by
  have hc := ref16_check l 2 (by omega)
  rw [show chkO l.length 2 = 10 by unfold chkO; rw [if_pos (by omega)]] at hc
  refine ret_of_awp tab Tryz.func38 rfl rfl (Nat.le_of_ble_eq_true rfl) (fun w0 F0 => ?_)
  repeat' (first
    | (show awpL _ _ _ _ _; first | refine goL ?_ | refine cl 81 tt rfl rfl rfl (hr := hc) (k := ?_) | (refine gdLG ?_ ?_ <;> intro _ <;> try (exfalso; omega)))
    | (show awp _ _ _ _; first | refine goA ?_ | refine rg 8 9 ?_ | (refine cdG ?_ ?_ <;> intro _ <;> try (exfalso; omega)))
    | (show andThen _ _ _ _; refine goN ?_)
    | (show inBlock _ _ _ _; refine goB ?_)
    | (show awpR _ _ _ _ _ _ _; first | refine goR ?_ | refine clR 81 tt rfl rfl rfl (hr := hc) (k := ?_) | (refine gdRG ?_ ?_ <;> intro _ <;> try (exfalso; omega)))
    | (show retPost _ _ _ _ _; refine finTG ?_))
  exact leT
theorem order_QuantileR (l : List R3) (p : R3) (h0 : 0 < l.length) (hn : l.length ≤ 200) (hp : RatOk p 1000) (hr : rv p < 0 ∨ 1 < rv p) : Ret Tryz.prog 29 [rsD l, rD p] (· = .tup [rD r0, rD r0, .int .i64 1]) := by
  have hc := order_check l 1 (by omega)
  rw [show chkO l.length 1 = 0 by unfold chkO; rw [if_neg (by omega), if_neg (by omega)]] at hc
  have sg := rational_Sign p (hp.up (by decide))
  by_cases c : rv p < 0
  · have hs : (rv p).num.sign < 0 := by rw [← Int.not_le, Int.sign_nonneg_iff, Rat.num_nonneg]; exact Rat.not_le.2 c
    generalize (rv p).num.sign = s at *
    clear hr c
    refine ret_of_awp tab Tryz.func29 rfl rfl (Nat.le_of_ble_eq_true rfl) (fun w0 F0 => ?_)
    repeat' (first
      | (show awpL _ _ _ _ _; first | refine goL ?_ | refine cl 53 tt rfl rfl rfl (hr := hc) (k := ?_) | refine cl 68 tt rfl rfl rfl (hr := sg) (k := ?_) | (refine gdLG ?_ ?_ <;> intro _ <;> try (exfalso; omega)))
      | (show awp _ _ _ _; first | refine goA ?_ | refine rg 4 6 ?_ | refine rgK 7 5 [10] ?_ | refine rg 10 6 ?_ | refine rg 12 16 ?_ | (refine cdG ?_ ?_ <;> intro _ <;> try (exfalso; omega)))
      | (show andThen _ _ _ _; refine goN ?_)
      | (show inBlock _ _ _ _; refine goB ?_)
      | (show awpR _ _ _ _ _ _ _; first | refine goR ?_ | refine clR 53 tt rfl rfl rfl (hr := hc) (k := ?_) | refine clR 68 tt rfl rfl rfl (hr := sg) (k := ?_) | (refine gdRG ?_ ?_ <;> intro _ <;> try (exfalso; omega)))
      | (show retPost _ _ _ _ _; refine finTG ?_))
    exact leT
  · have h1 : 1 < rv p := hr.resolve_left c
    have hs : ¬ (rv p).num.sign < 0 := by rw [← Int.not_le, Int.sign_nonneg_iff, Rat.num_nonneg, Classical.not_not]; exact Rat.not_lt.1 c
    have f1 := rational_FromIntW 1 (by decide) (by decide)
    rw [show ((1 : Int) : Rat) = 1 from rfl] at f1
    have c1 := rational_Compare p (rq 1) (hp.up (by decide)) (ok_rq (okQ_one.mono (by decide)))
    rw [rv_rq] at c1
    have hc1 : 0 < cmpQ (rv p) 1 := by rw [cmpQ_pos]; exact h1
    generalize cmpQ (rv p) 1 = c0 at *
    generalize (rv p).num.sign = s at *
    generalize (1 : Rat) = one at *
    clear hr c h1
    refine ret_of_awp tab Tryz.func29 rfl rfl (Nat.le_of_ble_eq_true rfl) (fun w0 F0 => ?_)
    repeat' (first
      | (show awpL _ _ _ _ _; first | refine goL ?_ | refine cl 53 tt rfl rfl rfl (hr := hc) (k := ?_) | refine cl 68 tt rfl rfl rfl (hr := sg) (k := ?_) | refine cl 70 tt rfl rfl rfl (hr := f1) (k := ?_) | refine cl 69 tt rfl rfl rfl (hr := c1) (k := ?_) | (refine gdLG ?_ ?_ <;> intro _ <;> try (exfalso; omega)))
      | (show awp _ _ _ _; first | refine goA ?_ | refine rg 4 6 ?_ | refine rgK 7 5 [10] ?_ | refine rg 10 6 ?_ | refine rg 12 16 ?_ | (refine cdG ?_ ?_ <;> intro _ <;> try (exfalso; omega)))
      | (show andThen _ _ _ _; refine goN ?_)
      | (show inBlock _ _ _ _; refine goB ?_)
      | (show awpR _ _ _ _ _ _ _; first | refine goR ?_ | refine clR 53 tt rfl rfl rfl (hr := hc) (k := ?_) | refine clR 68 tt rfl rfl rfl (hr := sg) (k := ?_) | refine clR 70 tt rfl rfl rfl (hr := f1) (k := ?_) | refine clR 69 tt rfl rfl rfl (hr := c1) (k := ?_) | (refine gdRG ?_ ?_ <;> intro _ <;> try (exfalso; omega)))
      | (show retPost _ _ _ _ _; refine finTG ?_))
    exact leT
theorem ref16_QuantileR (l : List R3) (p : R3) (h0 : 0 < l.length) (hn : l.length ≤ 200) (hp : RatOk p 1000) (hr : rv p < 0 ∨ 1 < rv p) : Ret Tryz.prog 45 [rsD l, rD p] (· = .tup [rD r0, rD r0, .int .i64 1]) := by
  have hc := ref16_check l 1 (by omega)
  rw [show chkO l.length 1 = 0 by unfold chkO; rw [if_neg (by omega), if_neg (by omega)]] at hc
  have sg := ref03_Sign p (hp.up (by decide))
  by_cases c : rv p < 0
  · have hs : (rv p).num.sign < 0 := by rw [← Int.not_le, Int.sign_nonneg_iff, Rat.num_nonneg]; exact Rat.not_le.2 c
    generalize (rv p).num.sign = s at *
    clear hr c
    refine ret_of_awp tab Tryz.func45 rfl rfl (Nat.le_of_ble_eq_true rfl) (fun w0 F0 => ?_)
    repeat' (first
      | (show awpL _ _ _ _ _; first | refine goL ?_ | refine cl 81 tt rfl rfl rfl (hr := hc) (k := ?_) | refine cl 52 tt rfl rfl rfl (hr := sg) (k := ?_) | (refine gdLG ?_ ?_ <;> intro _ <;> try (exfalso; omega)))
      | (show awp _ _ _ _; first | refine goA ?_ | refine rg 4 6 ?_ | refine rgK 8 5 [10] ?_ | refine rgX 11 17 [] ?_ | (refine cdG ?_ ?_ <;> intro _ <;> try (exfalso; omega)))
      | (show andThen _ _ _ _; refine goN ?_)
      | (show inBlock _ _ _ _; refine goB ?_)
      | (show awpR _ _ _ _ _ _ _; first | refine goR ?_ | refine clR 81 tt rfl rfl rfl (hr := hc) (k := ?_) | refine clR 52 tt rfl rfl rfl (hr := sg) (k := ?_) | (refine gdRG ?_ ?_ <;> intro _ <;> try (exfalso; omega)))
      | (show retPost _ _ _ _ _; refine finTG ?_))
    exact leT
  · have h1 : 1 < rv p := hr.resolve_left c
    have hs : ¬ (rv p).num.sign < 0 := by rw [← Int.not_le, Int.sign_nonneg_iff, Rat.num_nonneg, Classical.not_not]; exact Rat.not_lt.1 c
    have f1 := ref03_FromIntW 1 (by decide) (by decide)
    rw [show ((1 : Int) : Rat) = 1 from rfl] at f1
    have c1 := ref03_Less (rq 1) p (ok_rq (okQ_one.mono (by decide))) (hp.up (by decide))
    rw [rv_rq, decide_eq_true h1] at c1
    generalize (rv p).num.sign = s at *
    generalize (1 : Rat) = one at *
    clear hr c h1
    refine ret_of_awp tab Tryz.func45 rfl rfl (Nat.le_of_ble_eq_true rfl) (fun w0 F0 => ?_)
    repeat' (first
      | (show awpL _ _ _ _ _; first | refine goL ?_ | refine cl 81 tt rfl rfl rfl (hr := hc) (k := ?_) | refine cl 52 tt rfl rfl rfl (hr := sg) (k := ?_) | refine cl 19 tt rfl rfl rfl (hr := f1) (k := ?_) | refine cl 22 tt rfl rfl rfl (hr := c1) (k := ?_) | (refine gdLG ?_ ?_ <;> intro _ <;> try (exfalso; omega)))
      | (show awp _ _ _ _; first | refine goA ?_ | refine rg 4 6 ?_ | refine rgK 8 5 [10] ?_ | refine rgX 11 17 [] ?_ | (refine cdG ?_ ?_ <;> intro _ <;> try (exfalso; omega)))
      | (show andThen _ _ _ _; refine goN ?_)
      | (show inBlock _ _ _ _; refine goB ?_)
      | (show awpR _ _ _ _ _ _ _; first | refine goR ?_ | refine clR 81 tt rfl rfl rfl (hr := hc) (k := ?_) | refine clR 52 tt rfl rfl rfl (hr := sg) (k := ?_) | refine clR 19 tt rfl rfl rfl (hr := f1) (k := ?_) | refine clR 22 tt rfl rfl rfl (hr := c1) (k := ?_) | (refine gdRG ?_ ?_ <;> intro _ <;> try (exfalso; omega)))
      | (show retPost _ _ _ _ _; refine finTG ?_))
    exact leT
end Go.Proofs.YtfnckkfbnnbmkaaGreat

set_option linter.unusedVariables false
set_option linter.unusedSimpArgs false
set_option maxHeartbeats 16000000
namespace Go.Proofs.YtfnckkfbnnbmkaaGreat
open Go.Vw
attribute [local irreducible] awp awpL awpR

theorem numbers_ok (raw : List Int) (m : Nat) : ∀ q ∈ (raw.take m).map numQ, okQ 10 q := fun q hq => by
  obtain ⟨v, _, rfl⟩ := List.mem_map.1 hq
  exact ok_numQ v
theorem order_MedianQ (l : List Rat) (h0 : 0 < l.length) (hn : l.length ≤ 200) (hl : ∀ q ∈ l, okQ 1000 q) : Ret Tryz.prog 14 [qsD l] (· = .tup [qD (medLo l), qD (medHi l), .int .i64 0]) := by
  have h := order_Median (l.map rq) (by rw [List.length_map]; exact h0) (by rw [List.length_map]; exact hn) (fun r hr => by
    obtain ⟨q, hq, rfl⟩ := List.mem_map.1 hr
    exact ok_rq (hl q hq))
  rw [mapRvRq] at h
  exact h.args (LeT.cons (leRsQ2 l) LeT.nil)
theorem order_QuantileQ (l : List Rat) (p : Rat) (h0 : 0 < l.length) (hn : l.length ≤ 200) (hl : ∀ q ∈ l, okQ 1000 q) (hp : okQ 1000 p) (p0 : 0 ≤ p) (p1 : p ≤ 1) : Ret Tryz.prog 29 [qsD l, qD p] (· = .tup [qD (qLo l p), qD (qHi l p), .int .i64 0]) := by
  have h := order_Quantile (l.map rq) (rq p) (by rw [List.length_map]; exact h0) (by rw [List.length_map]; exact hn) (fun r hr => by
    obtain ⟨q, hq, rfl⟩ := List.mem_map.1 hr
    exact ok_rq (hl q hq)) (ok_rq hp) (by rw [rv_rq]; exact p0) (by rw [rv_rq]; exact p1)
  rw [mapRvRq, rv_rq] at h
  exact h.args (LeT.cons (leRsQ2 l) (LeT.refl _))
theorem ok_qLo {k : Nat} {l : List Rat} (h : ∀ q ∈ l, okQ k q) (h0 : 0 < l.length) (p : Rat) : okQ k (qLo l p) ∧ okQ k (qHi l p) := by
  have hs := srt_ok h
  have hlen := srt_len l
  unfold qLo qHi
  exact ⟨getD_ok hs (by omega), getD_ok hs (by omega)⟩
theorem ok_med {k : Nat} {l : List Rat} (h : ∀ q ∈ l, okQ k q) (h0 : 0 < l.length) : okQ k (medLo l) ∧ okQ k (medHi l) := by
  have hs := srt_ok h
  have hlen := srt_len l
  unfold medLo medHi
  exact ⟨getD_ok hs (by omega), getD_ok hs (by omega)⟩
end Go.Proofs.YtfnckkfbnnbmkaaGreat

set_option linter.unusedVariables false
set_option linter.unusedSimpArgs false
set_option maxHeartbeats 16000000
namespace Go.Proofs.YtfnckkfbnnbmkaaGreat
open Go.Vw
attribute [local irreducible] awp awpL awpR

theorem ok_qLoHi {l : List R3} (hl : ∀ r ∈ l, RatOk r 1000) (h0 : 0 < l.length) (p : Rat) : okQ 1000 (qLo (l.map rv) p) ∧ okQ 1000 (qHi (l.map rv) p) := ok_qLo (mapq_ok hl) (by rw [List.length_map]; exact h0) p
theorem sorts_true (l : List R3) (p : R3) (hn : l.length ≤ 9223372036854775807) (hl : ∀ r ∈ l, RawR r) (hp : RawR p) : Ret Tryz.prog 7 [rsD l, rD p] (· = .bool true) := by
  have aw := law16_awake
  have lt := law16_light l hl (by omega)
  have lp := made_LightR p hp
  by_cases hL : lightLs l 12 = true ∧ lightR p = true
  · obtain ⟨t1, t2⟩ := hL
    obtain ⟨n12, ol⟩ := light_of hl t1
    have op := hp.light t2
    rw [t1] at lt
    rw [t2] at lp
    have ol2 : ∀ r ∈ l, RatOk r 1000 := fun r hr => (ol r hr).up (by decide)
    have so1 := order_Sort l (by omega) ol2
    have so2 := ref16_Sort l (by omega) ol2
    have hso := srt_ok (mapq_ok ol2)
    have sl := sameList_Q (srt (l.map rv)) (by rw [srt_len, List.length_map]; omega) (fun q hq => (hso q hq).mono (by decide))
    have s0 := same_r0
    clear t1 t2 hl hp ol
    by_cases h0 : l.length = 0
    · have m1 := order_MedianE l (by omega)
      have m2 := ref16_MedianE l (by omega)
      have i1 := order_MiddleE l (by omega)
      have i2 := ref16_MiddleE l (by omega)
      have q1 := order_QuantileE l p (by omega)
      have q2 := ref16_QuantileE l p (by omega)
      clear ol2 hso
      generalize srt (l.map rv) = s at *
      refine ret_of_awp tab Tryz.func7 rfl rfl (Nat.le_of_ble_eq_true rfl) (fun w0 F0 => ?_)
      repeat' (first
        | (show awpL _ _ _ _ _; first | refine goL ?_ | refine cl 32 tt rfl rfl rfl (hr := lt) (k := ?_) | refine cl 42 tt rfl rfl rfl (hr := lp) (k := ?_) | refine cl 14 tt rfl rfl rfl (hr := m1) (k := ?_) | refine cl 43 tt rfl rfl rfl (hr := m2) (k := ?_) | refine cl 27 tt rfl rfl rfl (hr := i1) (k := ?_) | refine cl 44 tt rfl rfl rfl (hr := i2) (k := ?_) | refine cl 29 tt rfl rfl rfl (hr := q1) (k := ?_) | refine cl 45 tt rfl rfl rfl (hr := q2) (k := ?_) | refine cl 13 tt rfl rfl rfl (hr := aw) (k := ?_) | refine cl 47 tt rfl rfl rfl (hr := so1) (k := ?_) | refine cl 26 tt rfl rfl rfl (hr := so2) (k := ?_) | refine cl 46 tt rfl rfl rfl (hr := sl) (k := ?_) | refine cl 21 tt rfl rfl rfl (hr := s0) (k := ?_) | (refine gdLG ?_ ?_ <;> intro _ <;> try (exfalso; omega)))
        | (show awp _ _ _ _; first | refine goA ?_ | (refine cdG ?_ ?_ <;> intro _ <;> try (exfalso; omega)))
        | (show andThen _ _ _ _; refine goN ?_)
        | (show inBlock _ _ _ _; refine goB ?_)
        | (show retPost _ _ _ _ _; refine finG ?_))
      all_goals rfl
    · have m1 := order_Median l (by omega) (by omega) ol2
      have m2 := ref16_Median l (by omega) (by omega) ol2
      have i1 := order_Middle l (by omega) (by omega) ol2
      have i2 := ref16_Middle l (by omega) (by omega) ol2
      obtain ⟨o1, o2⟩ := med_ok (by omega) ol2
      have o3 := midQ_ok (mapq_ok ol2) (by rw [List.length_map]; omega)
      have s1 := sameQT _ (o1.mono (by decide))
      have s2 := sameQT _ (o2.mono (by decide))
      have s3 := sameQT _ (o3.mono (by decide))
      by_cases hpr : rv p < 0 ∨ 1 < rv p
      · have q1 := order_QuantileR l p (by omega) (by omega) (op.up (by decide)) hpr
        have q2 := ref16_QuantileR l p (by omega) (by omega) (op.up (by decide)) hpr
        clear ol2 hso o1 o2 o3 hpr
        generalize srt (l.map rv) = s at *
        generalize medLo (l.map rv) = x at *
        generalize medHi (l.map rv) = y at *
        generalize midQ (l.map rv) = z at *
        refine ret_of_awp tab Tryz.func7 rfl rfl (Nat.le_of_ble_eq_true rfl) (fun w0 F0 => ?_)
        repeat' (first
          | (show awpL _ _ _ _ _; first | refine goL ?_ | refine cl 32 tt rfl rfl rfl (hr := lt) (k := ?_) | refine cl 42 tt rfl rfl rfl (hr := lp) (k := ?_) | refine cl 14 tt rfl rfl rfl (hr := m1) (k := ?_) | refine cl 43 tt rfl rfl rfl (hr := m2) (k := ?_) | refine cl 27 tt rfl rfl rfl (hr := i1) (k := ?_) | refine cl 44 tt rfl rfl rfl (hr := i2) (k := ?_) | refine cl 29 tt rfl rfl rfl (hr := q1) (k := ?_) | refine cl 45 tt rfl rfl rfl (hr := q2) (k := ?_) | refine cl 13 tt rfl rfl rfl (hr := aw) (k := ?_) | refine cl 47 tt rfl rfl rfl (hr := so1) (k := ?_) | refine cl 26 tt rfl rfl rfl (hr := so2) (k := ?_) | refine cl 46 tt rfl rfl rfl (hr := sl) (k := ?_) | refine cl 21 tt rfl rfl rfl (hr := s0) (k := ?_) | refine cl 21 tt rfl rfl rfl (hr := s1) (k := ?_) | refine cl 21 tt rfl rfl rfl (hr := s2) (k := ?_) | refine cl 21 tt rfl rfl rfl (hr := s3) (k := ?_) | (refine gdLG ?_ ?_ <;> intro _ <;> try (exfalso; omega)))
          | (show awp _ _ _ _; first | refine goA ?_ | (refine cdG ?_ ?_ <;> intro _ <;> try (exfalso; omega)))
          | (show andThen _ _ _ _; refine goN ?_)
          | (show inBlock _ _ _ _; refine goB ?_)
          | (show retPost _ _ _ _ _; refine finG ?_))
        all_goals rfl
      · have p0 : 0 ≤ rv p := Rat.not_lt.1 fun h => hpr (.inl h)
        have p1 : rv p ≤ 1 := Rat.not_lt.1 fun h => hpr (.inr h)
        have q1 := order_Quantile l p (by omega) (by omega) ol2 (op.up (by decide)) p0 p1
        have q2 := ref16_Quantile l p (by omega) (by omega) ol2 (op.up (by decide)) p0 p1
        obtain ⟨o4, o5⟩ := ok_qLoHi ol2 (by omega) (rv p)
        have s4 := sameQT _ (o4.mono (by decide))
        have s5 := sameQT _ (o5.mono (by decide))
        clear ol2 hso o1 o2 o3 o4 o5 hpr p0 p1
        generalize srt (l.map rv) = s at *
        generalize medLo (l.map rv) = x at *
        generalize medHi (l.map rv) = y at *
        generalize midQ (l.map rv) = z at *
        generalize qLo (l.map rv) (rv p) = u at *
        generalize qHi (l.map rv) (rv p) = v at *
        refine ret_of_awp tab Tryz.func7 rfl rfl (Nat.le_of_ble_eq_true rfl) (fun w0 F0 => ?_)
        repeat' (first
          | (show awpL _ _ _ _ _; first | refine goL ?_ | refine cl 32 tt rfl rfl rfl (hr := lt) (k := ?_) | refine cl 42 tt rfl rfl rfl (hr := lp) (k := ?_) | refine cl 14 tt rfl rfl rfl (hr := m1) (k := ?_) | refine cl 43 tt rfl rfl rfl (hr := m2) (k := ?_) | refine cl 27 tt rfl rfl rfl (hr := i1) (k := ?_) | refine cl 44 tt rfl rfl rfl (hr := i2) (k := ?_) | refine cl 29 tt rfl rfl rfl (hr := q1) (k := ?_) | refine cl 45 tt rfl rfl rfl (hr := q2) (k := ?_) | refine cl 13 tt rfl rfl rfl (hr := aw) (k := ?_) | refine cl 47 tt rfl rfl rfl (hr := so1) (k := ?_) | refine cl 26 tt rfl rfl rfl (hr := so2) (k := ?_) | refine cl 46 tt rfl rfl rfl (hr := sl) (k := ?_) | refine cl 21 tt rfl rfl rfl (hr := s1) (k := ?_) | refine cl 21 tt rfl rfl rfl (hr := s2) (k := ?_) | refine cl 21 tt rfl rfl rfl (hr := s3) (k := ?_) | refine cl 21 tt rfl rfl rfl (hr := s4) (k := ?_) | refine cl 21 tt rfl rfl rfl (hr := s5) (k := ?_) | (refine gdLG ?_ ?_ <;> intro _ <;> try (exfalso; omega)))
          | (show awp _ _ _ _; first | refine goA ?_ | (refine cdG ?_ ?_ <;> intro _ <;> try (exfalso; omega)))
          | (show andThen _ _ _ _; refine goN ?_)
          | (show inBlock _ _ _ _; refine goB ?_)
          | (show retPost _ _ _ _ _; refine finG ?_))
        all_goals rfl
  · generalize lightLs l 12 = b1 at *
    generalize lightR p = b2 at *
    cases b1 <;> cases b2
    rotate_left 3
    · exact absurd ⟨rfl, rfl⟩ hL
    all_goals
      refine ret_of_awp tab Tryz.func7 rfl rfl (Nat.le_of_ble_eq_true rfl) (fun w0 F0 => ?_)
      repeat' (first
        | (show awpL _ _ _ _ _; first | refine goL ?_ | refine cl 32 tt rfl rfl rfl (hr := lt) (k := ?_) | refine cl 42 tt rfl rfl rfl (hr := lp) (k := ?_) | refine cl 13 tt rfl rfl rfl (hr := aw) (k := ?_) | (refine gdLG ?_ ?_ <;> intro _ <;> try (exfalso; omega)))
        | (show awp _ _ _ _; first | refine goA ?_ | (refine cdG ?_ ?_ <;> intro _ <;> try (exfalso; omega)))
        | (show andThen _ _ _ _; refine goN ?_)
        | (show inBlock _ _ _ _; refine goB ?_)
        | (show retPost _ _ _ _ _; refine finG ?_))
      rfl
end Go.Proofs.YtfnckkfbnnbmkaaGreat

/-
  Estimates of lists in another order, of lists that are moved and scaled, and where estimates lie. Conditions: as each says.
-/
set_option linter.unusedVariables false
set_option linter.unusedSimpArgs false
namespace Go.Vw
theorem srt_congr {a b : List Rat} (h : a.Perm b) : srt a = srt b := asc_unique (srt_asc a) (srt_asc b) ((srt_perm a).trans (h.trans (srt_perm b).symm))
def prTake (f : Rat → Rat → Rat) (l : List Rat) : Nat → List Rat
  | 0 => []
  | k + 1 => prTake f l k ++ (l.take k).map fun x => f x (l.getD k 0)
def prL (f : Rat → Rat → Rat) (l : List Rat) : List Rat := prTake f l l.length
theorem prTake_append (f : Rat → Rat → Rat) (l r : List Rat) : ∀ k, k ≤ l.length → prTake f (l ++ r) k = prTake f l k
  | 0, _ => rfl
  | k + 1, h => by
    rw [prTake, prTake, prTake_append f l r k (by omega), List.take_append_of_le_length (by omega), List.getD_eq_getElem?_getD, List.getElem?_append_left (by omega), ← List.getD_eq_getElem?_getD]
theorem prL_snoc (f : Rat → Rat → Rat) (l : List Rat) (y : Rat) : prL f (l ++ [y]) = prL f l ++ l.map fun x => f x y := by
  unfold prL
  rw [List.length_append, List.length_singleton, prTake, prTake_append f l [y] l.length (Nat.le_refl _), List.take_append_of_le_length (Nat.le_refl _), List.take_length]
  congr 2
  funext x
  rw [List.getD_eq_getElem?_getD, List.getElem?_append_right (Nat.le_refl _)]
  simp
theorem prL_cons {f : Rat → Rat → Rat} (hf : ∀ x y, f x y = f y x) (x : Rat) (l : List Rat) : (prL f (x :: l)).Perm ((l.map fun z => f x z) ++ prL f l) := by
  induction h : l.length generalizing l with
  | zero =>
    obtain rfl := List.length_eq_zero_iff.1 h
    exact List.Perm.refl _
  | succ n ih =>
    obtain ⟨r, y, rfl⟩ : ∃ r y, l = r ++ [y] := ⟨l.dropLast, l.getLast (by intro e; rw [e] at h; cases h), (List.dropLast_concat_getLast _).symm⟩
    have hr : r.length = n := by simpa using h
    rw [show x :: (r ++ [y]) = (x :: r) ++ [y] from rfl, prL_snoc, prL_snoc, List.map_append, List.map_cons, List.map_cons, List.map_nil]
    refine ((ih r hr).append_right _).trans ?_
    rw [List.append_assoc, List.append_assoc]
    refine List.Perm.append_left _ ?_
    exact List.perm_middle
theorem prL_perm {f : Rat → Rat → Rat} (hf : ∀ x y, f x y = f y x) {a b : List Rat} (h : a.Perm b) : (prL f a).Perm (prL f b) := by
  induction h with
  | nil => exact List.Perm.refl _
  | cons x h ih => exact (prL_cons hf x _).trans (((h.map _).append ih).trans (prL_cons hf x _).symm)
  | swap x y l =>
    refine (prL_cons hf y _).trans (((prL_cons hf x l).append_left _).trans ?_)
    refine List.Perm.trans ?_ (((prL_cons hf y l).append_left _).symm.trans (prL_cons hf x _).symm)
    rw [List.map_cons, List.map_cons, hf y x, ← List.append_assoc, ← List.append_assoc]
    refine List.Perm.append_right _ ?_
    rw [List.cons_append, List.cons_append]
    exact List.Perm.cons _ List.perm_append_comm
  | trans _ _ ih1 ih2 => exact ih1.trans ih2
theorem absQ_sub (x y : Rat) : absQ (x - y) = absQ (y - x) := by
  unfold absQ
  split <;> split <;> grind
theorem qnTake_pr (l : List Rat) : ∀ k, qnTake l k = prTake (fun x y => absQ (x - y)) l k
  | 0 => rfl
  | k + 1 => by rw [qnTake, prTake, qnTake_pr l k]; rfl
theorem hlTake_pr (l : List Rat) : ∀ k, k ≤ l.length → (hlTake l k).Perm (prTake (fun x y => (x + y) / 2) l k ++ (l.take k).map fun x => (x + x) / 2)
  | 0, _ => List.Perm.refl _
  | k + 1, h => by
    have e : l.take (k + 1) = l.take k ++ [l.getD k 0] := by
      rw [List.take_add_one, List.getD_eq_getElem?_getD, List.getElem?_eq_getElem (show k < l.length by omega)]
      rfl
    rw [hlTake, prTake, e, List.map_append, List.map_append, List.map_singleton, List.map_singleton]
    refine ((hlTake_pr l k (by omega)).append_right _).trans ?_
    rw [List.append_assoc, List.append_assoc]
    refine List.Perm.append_left _ ?_
    rw [← List.append_assoc, ← List.append_assoc]
    exact List.Perm.append_right _ List.perm_append_comm
theorem qnL_perm {a b : List Rat} (h : a.Perm b) : (qnL a).Perm (qnL b) := by
  unfold qnL
  rw [qnTake_pr, qnTake_pr]
  exact prL_perm (f := fun x y => absQ (x - y)) absQ_sub h
theorem hlL_perm {a b : List Rat} (h : a.Perm b) : (hlL a).Perm (hlL b) := by
  have key : ∀ l : List Rat, (hlL l).Perm (prL (fun x y => (x + y) / 2) l ++ l.map fun x => (x + x) / 2) := fun l => by
    have := hlTake_pr l l.length (Nat.le_refl _)
    rw [List.take_length] at this
    exact this
  exact (key a).trans (((prL_perm (f := fun x y => (x + y) / 2) (fun x y => by rw [Rat.add_comm]) h).append (h.map _)).trans (key b).symm)
theorem med_perm {a b : List Rat} (h : a.Perm b) : medLo a = medLo b ∧ medHi a = medHi b ∧ midQ a = midQ b := by
  have e := srt_congr h
  have hl := h.length_eq
  have h1 : medLo a = medLo b := by unfold medLo; rw [e, hl]
  have h2 : medHi a = medHi b := by unfold medHi; rw [e, hl]
  exact ⟨h1, h2, by unfold midQ; rw [h1, h2]⟩
def estL (l : List Rat) (p : Rat) (g : Nat) : List Rat := [medLo l, medHi l, midQ l, qLo l p, qHi l p, medLo (hlL l), medHi (hlL l), trimQ l g, winQ l g, midQ (distQ l (midQ l)), qnQ l]
theorem estL_perm {a b : List Rat} (h : a.Perm b) (p : Rat) (g : Nat) : estL a p g = estL b p g := by
  have e := srt_congr h
  have hl := h.length_eq
  obtain ⟨m1, m2, m3⟩ := med_perm h
  obtain ⟨h1, h2, _⟩ := med_perm (hlL_perm h)
  have q1 : qLo a p = qLo b p := by unfold qLo; rw [e, hl]
  have q2 : qHi a p = qHi b p := by unfold qHi; rw [e, hl]
  have t1 : trimQ a g = trimQ b g := by unfold trimQ trimR; rw [e, hl]
  have w1 : winQ a g = winQ b g := by unfold winQ; rw [e]
  have d1 : midQ (distQ a (midQ a)) = midQ (distQ b (midQ b)) := by
    rw [m3]
    exact (med_perm (h.map _)).2.2
  have n1 : qnQ a = qnQ b := by unfold qnQ; rw [srt_congr (qnL_perm h), hl]
  unfold estL
  rw [d1, m1, m2, m3, q1, q2, h1, h2, t1, w1, n1]
/-! ## Moved and scaled -/
theorem srt_map {φ : Rat → Rat} (hm : ∀ x y, x ≤ y → φ x ≤ φ y) (l : List Rat) : srt (l.map φ) = (srt l).map φ := by
  refine (srt_unique ?_ ((srt_perm l).map φ)).symm
  exact List.pairwise_map.2 ((srt_asc l).imp fun h => hm _ _ h)
theorem getD_map_in {φ : Rat → Rat} {l : List Rat} {i : Nat} (h : i < l.length) : (l.map φ).getD i 0 = φ (l.getD i 0) := by
  rw [List.getD_eq_getElem?_getD, List.getD_eq_getElem?_getD, List.getElem?_map, List.getElem?_eq_getElem h]
  rfl
theorem med_map {φ : Rat → Rat} (hm : ∀ x y, x ≤ y → φ x ≤ φ y) {l : List Rat} (h0 : 0 < l.length) : medLo (l.map φ) = φ (medLo l) ∧ medHi (l.map φ) = φ (medHi l) := by
  unfold medLo medHi
  rw [srt_map hm, List.length_map]
  exact ⟨getD_map_in (by rw [srt_len]; omega), getD_map_in (by rw [srt_len]; omega)⟩
theorem sumQ_map {c w : Rat} : ∀ l : List Rat, sumQ (l.map fun x => x * c + w) = sumQ l * c + ((l.length : Int) : Rat) * w
  | [] => by
    rw [List.map_nil, sumQ_nil, List.length_nil]
    show (0 : Rat) = 0 * c + ((0 : Int) : Rat) * w
    rw [show ((0 : Int) : Rat) = 0 from rfl]; grind
  | x :: l => by
    rw [List.map_cons, sumQ_cons, sumQ_cons, sumQ_map l, List.length_cons, show (((l.length + 1 : Nat) : Int) : Rat) = ((l.length : Int) : Rat) + 1 by rw [Int.natCast_add, Rat.intCast_add]; rfl]
    grind
theorem len_ne {l : List Rat} (h : 0 < l.length) : ((l.length : Int) : Rat) ≠ 0 := fun e => by have := Rat.intCast_eq_zero_iff.1 e; omega
theorem meanQ_map {c w : Rat} {l : List Rat} (h0 : 0 < l.length) : meanQ (l.map fun x => x * c + w) = meanQ l * c + w := by
  have hne := len_ne h0
  unfold meanQ
  rw [sumQ_map, List.length_map]
  generalize ((l.length : Int) : Rat) = n at *
  rw [Rat.div_def, Rat.div_def, Rat.add_mul, Rat.mul_comm n w, Rat.mul_assoc w, Rat.mul_inv_cancel n hne]
  grind
theorem hlTake_map {φ : Rat → Rat} (hφ : ∀ x y, (φ x + φ y) / 2 = φ ((x + y) / 2)) (l : List Rat) : ∀ k, k ≤ l.length → hlTake (l.map φ) k = (hlTake l k).map φ
  | 0, _ => rfl
  | k + 1, h => by
    rw [hlTake, hlTake, hlTake_map hφ l k (by omega), List.map_append, ← List.map_take, List.map_map, List.map_map, getD_map_in (by omega)]
    congr 1
    exact List.map_congr_left fun x _ => hφ x _
theorem distQ_map {c w : Rat} (hc : 0 < c) (l : List Rat) (m : Rat) : distQ (l.map fun x => x * c + w) (m * c + w) = (distQ l m).map fun x => x * c := by
  unfold distQ
  rw [List.map_map, List.map_map]
  refine List.map_congr_left fun x _ => ?_
  show absQ (x * c + w - (m * c + w)) = absQ (x - m) * c
  have e : x * c + w - (m * c + w) = (x - m) * c := by grind
  rw [e]
  unfold absQ
  by_cases h : x - m < 0
  · have h2 : (x - m) * c < 0 := by
      have := Rat.mul_lt_mul_of_pos_right h hc
      rwa [Rat.zero_mul] at this
    rw [if_pos h, if_pos h2]; grind
  · have h2 : ¬ (x - m) * c < 0 := Rat.not_lt.2 (Rat.mul_nonneg (Rat.not_lt.1 h) (Rat.le_of_lt hc))
    rw [if_neg h, if_neg h2]
theorem qnTake_map {c w : Rat} (hc : 0 < c) (l : List Rat) : ∀ k, k ≤ l.length → qnTake (l.map fun x => x * c + w) k = (qnTake l k).map fun x => x * c
  | 0, _ => rfl
  | k + 1, h => by
    rw [qnTake, qnTake, qnTake_map hc l k (by omega), List.map_append, ← List.map_take, getD_map_in (by omega), distQ_map hc]
theorem winL_map {φ : Rat → Rat} (s : List Rat) (g : Nat) (hg : g < s.length) : ∀ i, winL (s.map φ) g i = (winL s g i).map φ
  | 0 => rfl
  | i + 1 => by
    have hl := winL_len s g i
    rw [winL, winL, winL_map s g hg i, List.length_map, getD_map_in (by omega), getD_map_in (by omega), List.map_set, List.map_set]
theorem scale_mono {c : Rat} (hc : 0 < c) {x y : Rat} (h : x ≤ y) : x * c ≤ y * c := Rat.mul_le_mul_of_nonneg_right h (Rat.le_of_lt hc)
theorem estL_map {c w : Rat} (hc : 0 < c) {l : List Rat} (h0 : 2 ≤ l.length) (hn : l.length ≤ 12) (p : Rat) {g : Nat} (hg : g ≤ (l.length - 1) / 2) :
    estL (l.map fun x => x * c + w) p g = [medLo l * c + w, medHi l * c + w, midQ l * c + w, qLo l p * c + w, qHi l p * c + w, medLo (hlL l) * c + w, medHi (hlL l) * c + w, trimQ l g * c + w, winQ l g * c + w, midQ (distQ l (midQ l)) * c, qnQ l * c] := by
  have hm : ∀ x y : Rat, x ≤ y → x * c + w ≤ y * c + w := fun x y h => by have := scale_mono hc h; grind
  have hm2 : ∀ x y : Rat, x ≤ y → x * c ≤ y * c := fun x y h => scale_mono hc h
  obtain ⟨m1, m2⟩ := med_map hm (show 0 < l.length by omega)
  have m3 : midQ (l.map fun x => x * c + w) = midQ l * c + w := by unfold midQ; rw [m1, m2]; grind
  have hsl := srt_len l
  have q1 : qLo (l.map fun x => x * c + w) p = qLo l p * c + w := by
    unfold qLo; rw [srt_map hm, List.length_map]
    exact getD_map_in (by omega)
  have q2 : qHi (l.map fun x => x * c + w) p = qHi l p * c + w := by
    unfold qHi; rw [srt_map hm, List.length_map]
    exact getD_map_in (by omega)
  have eh : hlL (l.map fun x => x * c + w) = (hlL l).map fun x => x * c + w := by
    unfold hlL; rw [List.length_map]
    exact hlTake_map (φ := fun x => x * c + w) (fun x y => by grind) l _ (Nat.le_refl _)
  obtain ⟨h1, h2⟩ := med_map hm (hlL_len hn (by omega)).2
  have et : trimR (l.map fun x => x * c + w) g = (trimR l g).map fun x => x * c + w := by
    unfold trimR; rw [srt_map hm, List.length_map, ← List.map_drop, ← List.map_take]
  have t1 : trimQ (l.map fun x => x * c + w) g = trimQ l g * c + w := by
    unfold trimQ; rw [et]
    exact meanQ_map (by unfold trimR; rw [List.length_take, List.length_drop, hsl]; omega)
  have w1 : winQ (l.map fun x => x * c + w) g = winQ l g * c + w := by
    unfold winQ; rw [srt_map hm, winL_map _ _ (by omega)]
    exact meanQ_map (by rw [winL_len]; omega)
  have d1 : midQ (distQ (l.map fun x => x * c + w) (midQ (l.map fun x => x * c + w))) = midQ (distQ l (midQ l)) * c := by
    rw [m3, distQ_map hc]
    obtain ⟨e1, e2⟩ := med_map hm2 (l := distQ l (midQ l)) (by unfold distQ; rw [List.length_map]; omega)
    generalize distQ l (midQ l) = b at *
    unfold midQ; rw [e1, e2]; grind
  have n1 : qnQ (l.map fun x => x * c + w) = qnQ l * c := by
    have eq : qnL (l.map fun x => x * c + w) = (qnL l).map fun x => x * c := by
      unfold qnL; rw [List.length_map]
      exact qnTake_map hc l _ (Nat.le_refl _)
    unfold qnQ; rw [eq, srt_map hm2, List.length_map]
    exact getD_map_in (by rw [srt_len]; exact (qn_at hn h0).2.1)
  unfold estL
  rw [m1, m2, q1, q2, eh, h1, h2, t1, w1, d1, n1, m3]
/-! ## Where estimates lie -/
def Within (a b : Rat) (l : List Rat) : Prop := ∀ x ∈ l, a ≤ x ∧ x ≤ b
theorem getD_mem_in {l : List Rat} {i : Nat} (h : i < l.length) : l.getD i 0 ∈ l := by
  rw [List.getD_eq_getElem?_getD, List.getElem?_eq_getElem h]
  exact List.getElem_mem h
theorem Within.srt {a b : Rat} {l : List Rat} (h : Within a b l) : Within a b (srt l) := fun x hx => h x ((srt_perm l).subset hx)
theorem Within.get {a b : Rat} {l : List Rat} (h : Within a b l) {i : Nat} (hi : i < l.length) : a ≤ l.getD i 0 ∧ l.getD i 0 ≤ b := h _ (getD_mem_in hi)
theorem Within.med {a b : Rat} {l : List Rat} (h : Within a b l) (h0 : 0 < l.length) : (a ≤ medLo l ∧ medLo l ≤ b) ∧ (a ≤ medHi l ∧ medHi l ≤ b) ∧ a ≤ midQ l ∧ midQ l ≤ b := by
  have hl := srt_len l
  have h1 := h.srt.get (i := (l.length + 1) / 2 - 1) (by omega)
  have h2 := h.srt.get (i := l.length / 2) (by omega)
  refine ⟨h1, h2, ?_⟩
  unfold midQ medLo medHi
  constructor <;> grind
theorem Within.sum {a b : Rat} : ∀ {l : List Rat}, Within a b l → ((l.length : Int) : Rat) * a ≤ sumQ l ∧ sumQ l ≤ ((l.length : Int) : Rat) * b
  | [], _ => by
    rw [sumQ_nil, List.length_nil]
    rw [show (((0 : Nat) : Int) : Rat) = 0 from rfl]
    constructor <;> grind
  | x :: l, h => by
    obtain ⟨h1, h2⟩ := Within.sum (l := l) fun y hy => h y (List.mem_cons_of_mem _ hy)
    have hx := h x List.mem_cons_self
    rw [sumQ_cons, List.length_cons, show (((l.length + 1 : Nat) : Int) : Rat) = ((l.length : Int) : Rat) + 1 by rw [Int.natCast_add, Rat.intCast_add]; rfl]
    constructor <;> grind
theorem Within.mean {a b : Rat} {l : List Rat} (h : Within a b l) (h0 : 0 < l.length) : a ≤ meanQ l ∧ meanQ l ≤ b := by
  obtain ⟨h1, h2⟩ := h.sum
  have hp : (0 : Rat) < ((l.length : Int) : Rat) := by
    have : ((0 : Int) : Rat) < ((l.length : Int) : Rat) := Rat.intCast_lt_intCast.2 (by omega)
    exact this
  unfold meanQ
  generalize ((l.length : Int) : Rat) = n at *
  have e : sumQ l = (sumQ l / n) * n := (Rat.div_mul_cancel (by grind)).symm
  constructor
  · refine Rat.not_lt.1 fun hlt => ?_
    have := Rat.mul_lt_mul_of_pos_right hlt hp
    grind
  · refine Rat.not_lt.1 fun hlt => ?_
    have := Rat.mul_lt_mul_of_pos_right hlt hp
    grind
theorem Within.hl {a b : Rat} {l : List Rat} (h : Within a b l) : ∀ k, k ≤ l.length → Within a b (hlTake l k)
  | 0, _ => fun x hx => by simp [hlTake] at hx
  | k + 1, hk => fun x hx => by
    rw [hlTake, List.mem_append] at hx
    rcases hx with hx | hx
    · exact h.hl k (by omega) x hx
    · obtain ⟨y, hy, rfl⟩ := List.mem_map.1 hx
      have h1 := h y (List.mem_of_mem_take hy)
      have h2 := h.get (i := k) (by omega)
      constructor <;> grind
theorem Within.est {a b : Rat} {l : List Rat} (h : Within a b l) (h0 : 2 ≤ l.length) (hn : l.length ≤ 12) (p : Rat) {g : Nat} (hg : g ≤ (l.length - 1) / 2) : Within a b ((estL l p g).take 9) := by
  have hsl := srt_len l
  obtain ⟨m1, m2, m3⟩ := h.med (by omega)
  obtain ⟨h1, h2, _⟩ := (show Within a b (hlL l) from h.hl _ (Nat.le_refl _)).med (hlL_len hn (by omega)).2
  have q1 := h.srt.get (i := (min (qFirst p l.length) ((l.length : Int) - 1)).toNat) (by omega)
  have q2 := h.srt.get (i := (min (p * (l.length : Int)).floor ((l.length : Int) - 1)).toNat) (by omega)
  have t1 : a ≤ trimQ l g ∧ trimQ l g ≤ b := Within.mean (fun x hx => h.srt x (by unfold trimR at hx; exact List.mem_of_mem_drop (List.mem_of_mem_take hx))) (by unfold trimR; rw [List.length_take, List.length_drop, hsl]; omega)
  have w1 : a ≤ winQ l g ∧ winQ l g ≤ b := Within.mean (fun x hx => h.srt x (winL_mem _ g (by omega) g x hx)) (by rw [winL_len]; omega)
  intro x hx
  simp only [estL, List.take_succ_cons, List.take_zero, List.mem_cons, List.not_mem_nil, or_false] at hx
  rcases hx with rfl | rfl | rfl | rfl | rfl | rfl | rfl | rfl | rfl
  · exact m1
  · exact m2
  · exact m3
  · exact q1
  · exact q2
  · exact h1
  · exact h2
  · exact t1
  · exact w1
theorem within_srt {l : List Rat} (h0 : 0 < l.length) : Within ((srt l).getD 0 0) ((srt l).getD (l.length - 1) 0) l := fun x hx => by
  have hsl := srt_len l
  obtain ⟨i, hi, rfl⟩ := List.getElem_of_mem ((srt_perm l).symm.subset hx)
  have h1 := asc_getD (srt_asc l) (show 0 ≤ i by omega) hi
  have h2 := asc_getD (srt_asc l) (show i ≤ l.length - 1 by omega) (by omega)
  rw [List.getD_eq_getElem?_getD (i := i), List.getElem?_eq_getElem hi] at h1 h2
  exact ⟨h1, h2⟩
theorem sumQ_perm {a b : List Rat} (h : a.Perm b) : sumQ a = sumQ b := by
  induction h with
  | nil => rfl
  | cons x _ ih => rw [sumQ_cons, sumQ_cons, ih]
  | swap x y l => rw [sumQ_cons, sumQ_cons, sumQ_cons, sumQ_cons]; grind
  | trans _ _ h1 h2 => exact h1.trans h2
theorem trim_zero {l : List Rat} : trimQ l 0 = meanQ l := by
  unfold trimQ trimR meanQ
  rw [List.drop_zero, Nat.sub_zero, Nat.sub_zero, List.take_of_length_le (by rw [srt_len]; exact Nat.le_refl _), sumQ_perm (srt_perm l), srt_len]
theorem win_zero {l : List Rat} : winQ l 0 = meanQ l := by
  unfold winQ meanQ
  rw [show winL (srt l) 0 0 = srt l from rfl, sumQ_perm (srt_perm l), srt_len]
theorem absQ_nonneg (x : Rat) : 0 ≤ absQ x := by unfold absQ; split <;> grind
theorem scale_nonneg {l : List Rat} (h0 : 2 ≤ l.length) (hn : l.length ≤ 12) : 0 ≤ midQ (distQ l (midQ l)) ∧ 0 ≤ qnQ l := by
  constructor
  · have hd : (distQ l (midQ l)).length = l.length := by unfold distQ; rw [List.length_map]
    have hp : ∀ x ∈ distQ l (midQ l), 0 ≤ x := fun x hx => by
      obtain ⟨y, _, rfl⟩ := List.mem_map.1 hx
      exact absQ_nonneg _
    generalize distQ l (midQ l) = b at *
    have hs := srt_len b
    have h1 := hp _ ((srt_perm b).subset (getD_mem_in (l := srt b) (i := (b.length + 1) / 2 - 1) (by omega)))
    have h2 := hp _ ((srt_perm b).subset (getD_mem_in (l := srt b) (i := b.length / 2) (by omega)))
    unfold midQ medLo medHi
    grind
  · have hp : ∀ k, ∀ x ∈ qnTake l k, 0 ≤ x := fun k => by
      induction k with
      | zero => intro x hx; simp [qnTake] at hx
      | succ k ih =>
        intro x hx
        rw [qnTake, List.mem_append] at hx
        rcases hx with hx | hx
        · exact ih x hx
        · obtain ⟨y, _, rfl⟩ := List.mem_map.1 hx
          exact absQ_nonneg _
    unfold qnQ
    exact hp _ _ ((srt_perm (qnL l)).subset (getD_mem_in (by rw [srt_len]; exact (qn_at hn h0).2.1)))
theorem scale_zero {l : List Rat} {v : Rat} (h0 : 2 ≤ l.length) (hn : l.length ≤ 12) (he : ∀ x ∈ l, x = v) : midQ (distQ l (midQ l)) = 0 ∧ qnQ l = 0 := by
  have hw : Within v v l := fun x hx => by rw [he x hx]; exact ⟨Rat.le_refl, Rat.le_refl⟩
  have hm : midQ l = v := by have := (hw.med (by omega)).2.2; exact Rat.le_antisymm this.2 this.1
  constructor
  · have hd : Within 0 0 (distQ l (midQ l)) := fun x hx => by
      obtain ⟨y, hy, rfl⟩ := List.mem_map.1 hx
      rw [he y hy, hm, Rat.sub_self]
      unfold absQ; rw [if_neg (by decide)]; exact ⟨Rat.le_refl, Rat.le_refl⟩
    have := (hd.med (by unfold distQ; rw [List.length_map]; omega)).2.2
    exact Rat.le_antisymm this.2 this.1
  · have hp : ∀ k, k ≤ l.length → Within 0 0 (qnTake l k) := fun k => by
      induction k with
      | zero => intro _ x hx; simp [qnTake] at hx
      | succ k ih =>
        intro hk x hx
        rw [qnTake, List.mem_append] at hx
        rcases hx with hx | hx
        · exact ih (by omega) x hx
        · obtain ⟨y, hy, rfl⟩ := List.mem_map.1 hx
          rw [he y (List.mem_of_mem_take hy), he _ (getD_mem_in (show k < l.length by omega)), Rat.sub_self]
          unfold absQ; rw [if_neg (by decide)]; exact ⟨Rat.le_refl, Rat.le_refl⟩
    unfold qnQ
    have := (show Within 0 0 (qnL l) from hp _ (Nat.le_refl _)).srt.get (by rw [srt_len]; exact (qn_at hn h0).2.1)
    exact Rat.le_antisymm this.2 this.1
theorem resist {l : List Rat} {m i : Nat} {a b : Rat} (hm : Within a b (l.drop m)) (h1 : m ≤ i) (h2 : i + m < l.length) : a ≤ (srt l).getD i 0 ∧ (srt l).getD i 0 ≤ b := by
  have hsl := srt_len l
  have hs := srt_asc l
  constructor
  · refine Rat.not_lt.1 fun hlt => ?_
    have hc := (cntLe_iff hs (show i < (srt l).length by omega) ((srt l).getD i 0)).2 Rat.le_refl
    rw [cntLe_perm (srt_perm l)] at hc
    have e : cntLe l ((srt l).getD i 0) = cntLe (l.take m) ((srt l).getD i 0) + cntLe (l.drop m) ((srt l).getD i 0) := by
      unfold cntLe
      rw [← List.length_append, ← List.filter_append, List.take_append_drop]
    have e2 : cntLe (l.drop m) ((srt l).getD i 0) = 0 := by
      unfold cntLe
      rw [List.length_eq_zero_iff, List.filter_eq_nil_iff]
      intro x hx
      have := hm x hx
      simp only [decide_eq_true_eq]
      exact Rat.not_le.2 (by grind)
    have e3 : cntLe (l.take m) ((srt l).getD i 0) ≤ m := Nat.le_trans (List.length_filter_le ..) (by rw [List.length_take]; omega)
    omega
  · refine Rat.not_lt.1 fun hlt => ?_
    have hc := (cntGe_iff hs (show i < (srt l).length by omega) ((srt l).getD i 0)).2 Rat.le_refl
    rw [cntGe_perm (srt_perm l)] at hc
    have e : cntGe l ((srt l).getD i 0) = cntGe (l.take m) ((srt l).getD i 0) + cntGe (l.drop m) ((srt l).getD i 0) := by
      unfold cntGe
      rw [← List.length_append, ← List.filter_append, List.take_append_drop]
    have e2 : cntGe (l.drop m) ((srt l).getD i 0) = 0 := by
      unfold cntGe
      rw [List.length_eq_zero_iff, List.filter_eq_nil_iff]
      intro x hx
      have := hm x hx
      simp only [decide_eq_true_eq]
      exact Rat.not_le.2 (by grind)
    have e3 : cntGe (l.take m) ((srt l).getD i 0) ≤ m := Nat.le_trans (List.length_filter_le ..) (by rw [List.length_take]; omega)
    omega
theorem resist_mid {l : List Rat} {m g : Nat} {a b : Rat} (hm : Within a b (l.drop m)) (h1 : m ≤ g) (h2 : g ≤ (l.length - 1) / 2) (h0 : 0 < l.length) : (a ≤ midQ l ∧ midQ l ≤ b) ∧ a ≤ trimQ l g ∧ trimQ l g ≤ b := by
  have hsl := srt_len l
  constructor
  · have r1 := resist hm (i := (l.length + 1) / 2 - 1) (by omega) (by omega)
    have r2 := resist hm (i := l.length / 2) (by omega) (by omega)
    unfold midQ medLo medHi
    constructor <;> grind
  · refine Within.mean (fun x hx => ?_) (by unfold trimR; rw [List.length_take, List.length_drop, hsl]; omega)
    unfold trimR at hx
    obtain ⟨i, hi, rfl⟩ := List.getElem_of_mem hx
    rw [List.length_take, List.length_drop, hsl] at hi
    rw [List.getElem_take, List.getElem_drop]
    have := resist hm (i := g + i) (by omega) (by omega)
    rw [List.getD_eq_getElem?_getD, List.getElem?_eq_getElem (show g + i < (srt l).length by omega)] at this
    exact this
end Go.Vw

/-
  Permutations that are made of numbers. Conditions: as each says.
-/
set_option linter.unusedVariables false
set_option linter.unusedSimpArgs false
namespace Go.Vw
def permZ (n : Nat) (raw : List Int) : Nat → List Int
  | 0 => (List.range n).map fun (i : Nat) => (i : Int)
  | i + 1 => ((permZ n raw i).set i ((permZ n raw i).getD (raw.getD i 0 % (n : Int)).toNat 0)).set (raw.getD i 0 % (n : Int)).toNat ((permZ n raw i).getD i 0)
theorem permZ_len (n : Nat) (raw : List Int) : ∀ i, (permZ n raw i).length = n
  | 0 => by simp [permZ]
  | i + 1 => by rw [permZ, List.length_set, List.length_set, permZ_len n raw i]
theorem swapZ_perm {l : List Int} {i k : Nat} (hi : i < l.length) (hk : k < l.length) : ((l.set i (l.getD k 0)).set k (l.getD i 0)).Perm l := by
  have e1 : l.getD i 0 = l[i] := by simp [List.getD_eq_getElem?_getD, hi]
  have e2 : l.getD k 0 = l[k] := by simp [List.getD_eq_getElem?_getD, hk]
  rw [e1, e2]
  exact List.set_set_perm hi hk
theorem modN (z : Int) {n : Nat} (hn : 0 < n) : 0 ≤ z % (n : Int) ∧ z % (n : Int) < n := ⟨Int.emod_nonneg _ (by omega), Int.emod_lt_of_pos _ (by omega)⟩
theorem permZ_perm {n : Nat} (raw : List Int) (hn : 0 < n) : ∀ i, i ≤ n → (permZ n raw i).Perm ((List.range n).map fun (i : Nat) => (i : Int))
  | 0, _ => List.Perm.refl _
  | i + 1, h => by
    have hl := permZ_len n raw i
    have hm := modN (raw.getD i 0) hn
    exact (swapZ_perm (by omega) (by omega)).trans (permZ_perm raw hn i (by omega))
theorem permZ_bd {n : Nat} (raw : List Int) (hn : 0 < n) {i : Nat} (hi : i ≤ n) : ∀ z ∈ permZ n raw i, 0 ≤ z ∧ z < n := fun z hz => by
  obtain ⟨j, hj, rfl⟩ := List.mem_map.1 ((permZ_perm raw hn i hi).subset hz)
  rw [List.mem_range] at hj
  omega
def pick (l : List Rat) (q : List Int) : List Rat := q.map fun z => l.getD z.toNat 0
theorem range_pick (l : List Rat) : ((List.range l.length).map fun i => l.getD i 0) = l := by
  refine List.ext_getElem (by simp) fun i h1 h2 => ?_
  rw [List.getElem_map, List.getElem_range, List.getD_eq_getElem?_getD, List.getElem?_eq_getElem h2]
  rfl
theorem pick_perm {l : List Rat} {q : List Int} (h : q.Perm ((List.range l.length).map fun (i : Nat) => (i : Int))) : (pick l q).Perm l := by
  have := h.map fun z => l.getD z.toNat 0
  rw [List.map_map] at this
  unfold pick
  refine this.trans ?_
  show (((List.range l.length).map fun i => l.getD i 0)).Perm l
  rw [range_pick]
end Go.Vw

set_option linter.unusedVariables false
set_option linter.unusedSimpArgs false
set_option maxHeartbeats 16000000
namespace Go.Proofs.YtfnckkfbnnbmkaaGreat
open Go.Vw
attribute [local irreducible] awp awpL awpR

theorem rqs_ok {k : Nat} {l : List Rat} (h : ∀ q ∈ l, okQ k q) : ∀ r ∈ l.map rq, RatOk r k := fun r hr => by
  obtain ⟨q, hq, rfl⟩ := List.mem_map.1 hr
  exact ok_rq (h q hq)
theorem okQ_mono {k j : Nat} {l : List Rat} (h : ∀ q ∈ l, okQ k q) (hk : k ≤ j) : ∀ q ∈ l, okQ j q := fun q hq => (h q hq).mono hk
theorem made_At (l : List Int) (i : Nat) (hl : l.length ≤ 9223372036854775807) (hi : i < 1000000) : Ret Tryz.prog 25 [i64s l, .int .i64 i] (· = .int .i64 (l.getD i 0)) := by
  by_cases h : i < l.length
  · refine ret_of_awp tab Tryz.func25 rfl rfl (Nat.le_of_ble_eq_true rfl) (fun w0 F0 => ?_)
    repeat' (first
      | (show awpL _ _ _ _ _; first | refine goL ?_ | (refine gdLG ?_ ?_ <;> intro _ <;> try (exfalso; omega)))
      | (show awp _ _ _ _; first | refine goA ?_ | (refine cdG ?_ ?_ <;> intro _ <;> try (exfalso; omega)))
      | (show andThen _ _ _ _; refine goN ?_)
      | (show inBlock _ _ _ _; refine goB ?_)
      | (show retPost _ _ _ _ _; refine finG ?_))
    all_goals rfl
  · have e : l.getD i 0 = 0 := by rw [List.getD_eq_getElem?_getD, List.getElem?_eq_none (by omega)]; rfl
    rw [e]
    refine ret_of_awp tab Tryz.func25 rfl rfl (Nat.le_of_ble_eq_true rfl) (fun w0 F0 => ?_)
    repeat' (first
      | (show awpL _ _ _ _ _; first | refine goL ?_ | (refine gdLG ?_ ?_ <;> intro _ <;> try (exfalso; omega)))
      | (show awp _ _ _ _; first | refine goA ?_ | (refine cdG ?_ ?_ <;> intro _ <;> try (exfalso; omega)))
      | (show andThen _ _ _ _; refine goN ?_)
      | (show inBlock _ _ _ _; refine goB ?_)
      | (show retPost _ _ _ _ _; refine finG ?_))
    all_goals rfl
abbrev iB (l : List Int) : Blk := .data 3 1 (eI .i64) 0 l
theorem made_Permutation (n : Nat) (raw : List Int) (h0 : 0 < n) (hn : n ≤ 100) (hl : raw.length ≤ 9223372036854775807) (hx : I64 raw) : Ret Tryz.prog 48 [.int .i64 n, i64s raw] (· = i64s (permZ n raw n)) := by
  refine ret_of_awp tab Tryz.func48 rfl rfl (Nat.le_of_ble_eq_true rfl) (fun w0 F0 => ?_)
  repeat' (first
    | (show awpL _ _ _ _ _; first | refine goL ?_ | (refine gdLG ?_ ?_ <;> intro _ <;> try (exfalso; omega)))
    | (show awp _ _ _ _; first | refine goA ?_ | refine rg 10 14 ?_ | (refine cdG ?_ ?_ <;> intro _ <;> try (exfalso; omega)))
    | (show andThen _ _ _ _; refine goN ?_)
    | (show inBlock _ _ _ _; refine goB ?_)
    | (show awpR _ _ _ _ _ _ _; first | refine goR ?_ | (refine gdRG ?_ ?_ <;> intro _ <;> try (exfalso; omega)))
    | (show retPost _ _ _ _ _; refine finG ?_))
  refine awp_adopt 5 500 3 1 (eI .i64) 0 rfl ?_
  refine awp_loop1 (fun (i : Nat) => ([(0, .d (.int .i64 n)), (1, .d (i64s raw)), (5, .own 500 0 i 3 1), (6, .d (.int .i64 i))], [(500, iB ((List.range i).map fun (i : Nat) => (i : Int)))])) (fun i => i ≤ n) (fun i => n - i) 0 (by omega) ⟨rfl, rfl, rfl, rfl, rfl⟩ ⟨rfl, trivial⟩ (fun i hi => ?_)
  have hll : ((List.range i).map fun (i : Nat) => (i : Int)).length = i := by simp
  by_cases h3 : i < n
  · have e : ((List.range i).map fun (i : Nat) => (i : Int)) ++ [(i : Int)] = (List.range (i + 1)).map fun (i : Nat) => (i : Int) := by
      rw [List.range_succ, List.map_append]; rfl
    generalize ((List.range i).map fun (i : Nat) => (i : Int)) = m at *
    repeat' (first
      | (show awpL _ _ _ _ _; first | refine goL ?_ | (refine gdLG ?_ ?_ <;> intro _ <;> try (exfalso; omega)))
      | (show awp _ _ _ _; first | refine goA ?_ | refine rg 10 14 ?_ | (refine cdG ?_ ?_ <;> intro _ <;> try (exfalso; omega)))
      | (show andThen _ _ _ _; refine goN ?_)
      | (show inBlock _ _ _ _; refine goB ?_)
      | (show awpR _ _ _ _ _ _ _; first | refine goR ?_ | (refine gdRG ?_ ?_ <;> intro _ <;> try (exfalso; omega)))
      | (show retPost _ _ _ _ _; refine finG ?_))
    exact ⟨i + 1, by omega, by omega, ⟨rfl, rfl, ownEq (by simp; omega), iv (by omega), rfl⟩, blkEq e, trivial⟩
  · obtain rfl : i = n := by omega
    repeat' (first
      | (show awpL _ _ _ _ _; first | refine goL ?_ | (refine gdLG ?_ ?_ <;> intro _ <;> try (exfalso; omega)))
      | (show awp _ _ _ _; first | refine goA ?_ | refine rg 10 14 ?_ | (refine cdG ?_ ?_ <;> intro _ <;> try (exfalso; omega)))
      | (show andThen _ _ _ _; refine goN ?_)
      | (show inBlock _ _ _ _; refine goB ?_)
      | (show awpR _ _ _ _ _ _ _; first | refine goR ?_ | (refine gdRG ?_ ?_ <;> intro _ <;> try (exfalso; omega)))
      | (show retPost _ _ _ _ _; refine finG ?_))
    refine awp_loop1 (fun (j : Nat) => ([(0, .d (.int .i64 i)), (1, .d (i64s raw)), (5, .own 500 0 i 3 1), (7, .d (.int .i64 j))], [(500, iB (permZ i raw j))])) (fun j => j ≤ i) (fun j => i - j) 0 (by omega) ⟨rfl, rfl, rfl, rfl, rfl⟩ ⟨rfl, trivial⟩ (fun j hj => ?_)
    have hpl := permZ_len i raw j
    by_cases h4 : j < i
    · have ha := made_At raw j hl (by omega)
      have hg := hx.getD j
      have hm := made_ModW (raw.getD j 0) i hg.1 hg.2 (by omega) (by omega)
      have hb := modN (raw.getD j 0) h0
      obtain ⟨m2, hm2⟩ : ∃ m2, permZ i raw (j + 1) = m2 := ⟨_, rfl⟩
      have hm3 := hm2
      rw [permZ] at hm3
      generalize raw.getD j 0 % (i : Int) = k at *
      generalize raw.getD j 0 = v at *
      generalize permZ i raw j = m at *
      repeat' (first
        | (show awpL _ _ _ _ _; first | refine goL ?_ | refine cl 25 tt rfl rfl rfl (hr := ha) (k := ?_) | refine cl 24 tt rfl rfl rfl (hr := hm) (k := ?_) | (refine gdLG ?_ ?_ <;> intro _ <;> try (exfalso; omega)))
        | (show awp _ _ _ _; first | refine goA ?_ | refine rg 10 14 ?_ | (refine cdG ?_ ?_ <;> intro _ <;> try (exfalso; omega)))
        | (show andThen _ _ _ _; refine goN ?_)
        | (show inBlock _ _ _ _; refine goB ?_)
        | (show awpR _ _ _ _ _ _ _; first | refine goR ?_ | refine clR 25 tt rfl rfl rfl (hr := ha) (k := ?_) | refine clR 24 tt rfl rfl rfl (hr := hm) (k := ?_) | (refine gdRG ?_ ?_ <;> intro _ <;> try (exfalso; omega)))
        | (show retPost _ _ _ _ _; refine finG ?_))
      exact ⟨j + 1, by omega, by omega, ⟨rfl, rfl, rfl, iv (by omega), rfl⟩, blkEq (by rw [hm2, ← hm3]), trivial⟩
    · obtain rfl : j = i := by omega
      repeat' (first
        | (show awpL _ _ _ _ _; first | refine goL ?_ | (refine gdLG ?_ ?_ <;> intro _ <;> try (exfalso; omega)))
        | (show awp _ _ _ _; first | refine goA ?_ | refine rg 10 14 ?_ | (refine cdG ?_ ?_ <;> intro _ <;> try (exfalso; omega)))
        | (show andThen _ _ _ _; refine goN ?_)
        | (show inBlock _ _ _ _; refine goB ?_)
        | (show awpR _ _ _ _ _ _ _; first | refine goR ?_ | (refine gdRG ?_ ?_ <;> intro _ <;> try (exfalso; omega)))
        | (show retPost _ _ _ _ _; refine finG ?_))
      all_goals rfl
theorem order_MiddleQ (l : List Rat) (h0 : 0 < l.length) (hn : l.length ≤ 200) (hl : ∀ q ∈ l, okQ 1000 q) : Ret Tryz.prog 27 [qsD l] (· = .tup [qD (midQ l), .int .i64 0]) := by
  have h := order_Middle (l.map rq) (by rw [List.length_map]; exact h0) (by rw [List.length_map]; exact hn) (rqs_ok hl)
  rw [mapRvRq] at h
  exact h.args (LeT.cons (leRsQ2 l) LeT.nil)
theorem order_DeviationQ (l : List Rat) (h0 : 0 < l.length) (hn : l.length ≤ 200) (hl : ∀ q ∈ l, okQ 100 q) : Ret Tryz.prog 33 [qsD l] (· = .tup [qD (midQ (distQ l (midQ l))), .int .i64 0]) := by
  have h := order_Deviation (l.map rq) (by rw [List.length_map]; exact h0) (by rw [List.length_map]; exact hn) (rqs_ok hl)
  rw [mapRvRq] at h
  exact h.args (LeT.cons (leRsQ2 l) LeT.nil)
theorem order_HLQ (l : List Rat) (h0 : 0 < l.length) (hn : l.length ≤ 12) (hl : ∀ q ∈ l, okQ 100 q) : Ret Tryz.prog 35 [qsD l] (· = .tup [qD (medLo (hlL l)), qD (medHi (hlL l)), .int .i64 0]) := by
  have h := order_HodgesLehmann (l.map rq) (by rw [List.length_map]; exact h0) (by rw [List.length_map]; exact hn) (rqs_ok hl)
  rw [mapRvRq] at h
  exact h.args (LeT.cons (leRsQ2 l) LeT.nil)
theorem order_QnQ (l : List Rat) (h0 : 2 ≤ l.length) (hn : l.length ≤ 12) (hl : ∀ q ∈ l, okQ 100 q) : Ret Tryz.prog 37 [qsD l] (· = .tup [qD (qnQ l), .int .i64 0]) := by
  have h := order_Qn (l.map rq) (by rw [List.length_map]; exact h0) (by rw [List.length_map]; exact hn) (rqs_ok hl)
  rw [mapRvRq] at h
  exact h.args (LeT.cons (leRsQ2 l) LeT.nil)
theorem order_TrimmedQ (l : List Rat) (g : Nat) (h0 : 0 < l.length) (hn : l.length ≤ 100) (hl : ∀ q ∈ l, okQ 1000 q) (hg : g ≤ (l.length - 1) / 2) : Ret Tryz.prog 28 [qsD l, .int .i64 g] (· = .tup [qD (trimQ l g), .int .i64 0]) := by
  have h := order_Trimmed (l.map rq) g (by rw [List.length_map]; exact h0) (by rw [List.length_map]; exact hn) (rqs_ok hl) (by rw [List.length_map]; exact hg)
  rw [mapRvRq] at h
  exact h.args (LeT.cons (leRsQ2 l) (LeT.refl _))
theorem order_WinsorisedQ (l : List Rat) (g : Nat) (h0 : 0 < l.length) (hn : l.length ≤ 100) (hl : ∀ q ∈ l, okQ 1000 q) (hg : g ≤ (l.length - 1) / 2) : Ret Tryz.prog 40 [qsD l, .int .i64 g] (· = .tup [qD (winQ l g), .int .i64 0]) := by
  have h := order_Winsorised (l.map rq) g (by rw [List.length_map]; exact h0) (by rw [List.length_map]; exact hn) (rqs_ok hl) (by rw [List.length_map]; exact hg)
  rw [mapRvRq] at h
  exact h.args (LeT.cons (leRsQ2 l) (LeT.refl _))
theorem order_SortQ2 (l : List Rat) (hn : l.length ≤ 200) (hl : ∀ q ∈ l, okQ 1000 q) : Ret Tryz.prog 47 [qsD l] (· = qsD (srt l)) := by
  have h := order_Sort (l.map rq) (by rw [List.length_map]; exact hn) (rqs_ok hl)
  rw [mapRvRq] at h
  exact h.args (LeT.cons (leRsQ2 l) LeT.nil)
theorem ref16_SortQ2 (l : List Rat) (hn : l.length ≤ 200) (hl : ∀ q ∈ l, okQ 1000 q) : Ret Tryz.prog 26 [qsD l] (· = qsD (srt l)) := by
  have h := ref16_Sort (l.map rq) (by rw [List.length_map]; exact hn) (rqs_ok hl)
  rw [mapRvRq] at h
  exact h.args (LeT.cons (leRsQ2 l) LeT.nil)
theorem law16_estimates (l : List Rat) (p : Rat) (g : Nat) (h0 : 2 ≤ l.length) (hn : l.length ≤ 12) (hl : ∀ q ∈ l, okQ 100 q) (hp : okQ 100 p) (p0 : 0 ≤ p) (p1 : p ≤ 1) (hg : g ≤ (l.length - 1) / 2) : Ret Tryz.prog 49 [qsD l, qD p, .int .i64 g] (· = .tup [qsD (estL l p g), .bool true]) := by
  have ol := okQ_mono hl (show 100 ≤ 1000 by decide)
  have c1 := order_MedianQ l (by omega) (by omega) ol
  have c2 := order_MiddleQ l (by omega) (by omega) ol
  have c3 := order_QuantileQ l p (by omega) (by omega) ol (hp.mono (by decide)) p0 p1
  have c4 := order_HLQ l (by omega) hn hl
  have c5 := order_TrimmedQ l g (by omega) (by omega) ol hg
  have c6 := order_WinsorisedQ l g (by omega) (by omega) ol hg
  have c7 := order_DeviationQ l (by omega) (by omega) hl
  have c8 := order_QnQ l h0 hn hl
  unfold estL
  clear hl ol hp p0 p1
  generalize medLo (hlL l) = x6 at *
  generalize medHi (hlL l) = x7 at *
  generalize midQ (distQ l (midQ l)) = x10 at *
  generalize medLo l = x1 at *
  generalize medHi l = x2 at *
  generalize midQ l = x3 at *
  generalize qLo l p = x4 at *
  generalize qHi l p = x5 at *
  generalize trimQ l g = x8 at *
  generalize winQ l g = x9 at *
  generalize qnQ l = x11 at *
  refine ret_of_awp tab Tryz.func49 rfl rfl (Nat.le_of_ble_eq_true rfl) (fun w0 F0 => ?_)
  repeat' (first
    | (show awpL _ _ _ _ _; first | refine goL ?_ | refine cl 14 tt rfl rfl rfl (hr := c1) (k := ?_) | refine cl 27 tt rfl rfl rfl (hr := c2) (k := ?_) | refine cl 29 tt rfl rfl rfl (hr := c3) (k := ?_) | refine cl 35 tt rfl rfl rfl (hr := c4) (k := ?_) | refine cl 28 tt rfl rfl rfl (hr := c5) (k := ?_) | refine cl 40 tt rfl rfl rfl (hr := c6) (k := ?_) | refine cl 33 tt rfl rfl rfl (hr := c7) (k := ?_) | refine cl 37 tt rfl rfl rfl (hr := c8) (k := ?_) | (refine gdLG ?_ ?_ <;> intro _ <;> try (exfalso; omega)))
    | (show awp _ _ _ _; first | refine goA ?_ | (refine cdG ?_ ?_ <;> intro _ <;> try (exfalso; omega)))
    | (show andThen _ _ _ _; refine goN ?_)
    | (show inBlock _ _ _ _; refine goB ?_)
    | (show retPost _ _ _ _ _; refine finTG ?_))
  all_goals exact leT
theorem est_ok {l : List Rat} {p : Rat} {g : Nat} (h0 : 2 ≤ l.length) (hn : l.length ≤ 12) (hl : ∀ q ∈ l, okQ 100 q) (hg : g ≤ (l.length - 1) / 2) : ∀ q ∈ estL l p g, okQ 100000 q := fun q hq => by
  have ol := okQ_mono hl (show 100 ≤ 1000 by decide)
  obtain ⟨m1, m2⟩ := ok_med hl (show 0 < l.length by omega)
  have m3 := midQ_ok hl (show 0 < l.length by omega)
  obtain ⟨q1, q2⟩ := ok_qLo hl (show 0 < l.length by omega) p
  have hll := hlL_len hn (by omega)
  have ho : ∀ q ∈ hlL l, okQ 1000 q := fun q h => (hlTake_ok hl _ (Nat.le_refl _) q h).mono (by decide)
  obtain ⟨h1, h2⟩ := ok_med ho hll.2
  have hlen := qn_at hn h0
  have hq2 : ∀ q ∈ qnL l, okQ 1000 q := fun q h => (qnTake_ok hl _ (Nat.le_refl _) q h).mono (by decide)
  have k1 : okQ 1000 (qnQ l) := by unfold qnQ; exact getD_ok (srt_ok hq2) (by rw [srt_len]; exact hlen.2.1)
  have kd : ∀ q ∈ distQ l (midQ l), okQ 1000 q := fun q hq2 => by
    obtain ⟨x, hx, rfl⟩ := List.mem_map.1 hq2
    exact (absQ_ok ((hl x hx).sub m3)).mono (by decide)
  have k2 := midQ_ok kd (by unfold distQ; rw [List.length_map]; omega)
  have t1 : okQ 100000 (trimQ l g) := by
    have hk : (trimR l g).length = l.length - g - g := by unfold trimR; rw [List.length_take, List.length_drop, srt_len]; omega
    have h1 := sumQ_ok (l := trimR l g) (k := 1000) (by unfold trimR; exact takeQ_ok (dropQ_ok (srt_ok ol) g) _)
    have kn : okQ 10 (((trimR l g).length : Int) : Rat) := ok_intW (by omega)
    exact (h1.div kn (len_ne (by omega))).mono (by omega)
  have w1 : okQ 100000 (winQ l g) := by
    have hk : (winL (srt l) g g).length = l.length := by rw [winL_len, srt_len]
    have h1 := sumQ_ok (l := winL (srt l) g g) (k := 1000) (fun q hq => srt_ok ol q (winL_mem _ g (by rw [srt_len]; omega) g q hq))
    have kn : okQ 10 (((winL (srt l) g g).length : Int) : Rat) := ok_intW (by omega)
    exact (h1.div kn (len_ne (by omega))).mono (by omega)
  simp only [estL, List.mem_cons, List.not_mem_nil, or_false] at hq
  rcases hq with rfl | rfl | rfl | rfl | rfl | rfl | rfl | rfl | rfl | rfl | rfl
  · exact m1.mono (by decide)
  · exact m2.mono (by decide)
  · exact m3.mono (by decide)
  · exact q1.mono (by decide)
  · exact q2.mono (by decide)
  · exact h1.mono (by decide)
  · exact h2.mono (by decide)
  · exact t1
  · exact w1
  · exact k2.mono (by decide)
  · exact k1.mono (by decide)
end Go.Proofs.YtfnckkfbnnbmkaaGreat
