/-
  Contracts of functions of the program, and the layer that they are walked with: W32 W33 W34 W35 W08 W30 S42 S56. Conditions: as each says.
-/
import Derived.Test.YtoppaphffnojdaaGreatA07
set_option linter.unnecessarySimpa false
/-
  Scatter: the program's grid. Conditions: sizes.
-/
set_option linter.unusedVariables false
set_option linter.unusedSimpArgs false
set_option maxHeartbeats 8000000
namespace Go.Proofs.YtoppaphffnojdaaGreat
open Go.Vw
attribute [local irreducible] awp awpL awpR

theorem grid_cover {bs l : List (Nat × Blk)} {B : Nat} {cs : List V} {ty : TypeId} {sz : Nat} {α : Type} {e : α → List D} {z : α} {R : Nat → List α} {n k : Nat} {t : TypeId} (h1 : coverB bs l = true) (h2 : keysOk bs (V.keysL cs) = true) : coverB bs (l ++ ((k, .vec t cs) :: famL B n fun j => .data ty sz e z (R j))) = true := by
  refine cover_app h1 ?_
  simp only [coverB, h2, cover_fam, Bool.and_self]
theorem take_mark {z : List Int} {m : Nat} (h : m < z.length) : (lineB z).take m ++ [UInt8.ofNat (markZ (z.getD m 0)).toNat] = (lineB z).take (m + 1) := by
  rw [List.take_add_one, ← lineB_getD h]
  simp [List.getD_eq_getElem?_getD, lineB_len, h]
theorem plot_ScatterOk (x y : List R3) (w h : Nat) (x0 : 0 < x.length) (xl : x.length ≤ 64) (yl : y.length = x.length) (hx : ∀ r ∈ x, RatOk r 100) (hy : ∀ r ∈ y, RatOk r 100) (wp : 0 < w) (w1 : w ≤ 100) (h0 : 0 < h) (h1 : h ≤ 50) : Ret Tryz.prog 24 [rsD x, rsD y, .int .i64 w, .int .i64 h] (· = .tup [.str (txtG (grdG w (fun i => h - 1 - plcZ (rv (y.getD i r0)) (rv (loS (y.getD 0 r0) y)) (rv (hiS (y.getD 0 r0) y)) h) (fun i => plcZ (rv (x.getD i r0)) (rv (loS (x.getD 0 r0) x)) (rv (hiS (x.getD 0 r0) x)) w) x.length) h), .int .i64 0]) := by
  have gx : ∀ i, i < x.length → RatOk (x.getD i r0) 100 := fun i hi => hx _ (by rw [List.getD_eq_getElem?_getD, List.getElem?_eq_getElem hi]; exact List.getElem_mem _)
  have gy : ∀ i, i < x.length → RatOk (y.getD i r0) 100 := fun i hi => hy _ (by rw [List.getD_eq_getElem?_getD, List.getElem?_eq_getElem (by omega)]; exact List.getElem_mem _)
  have mem : ∀ {l : List R3}, 0 < l.length → (∀ r ∈ l, RatOk r 100) → RatOk (loS (l.getD 0 r0) l) 100 ∧ RatOk (hiS (l.getD 0 r0) l) 100 := fun {l} l0 hl => by
    have g0 : l.getD 0 r0 ∈ l := by rw [List.getD_eq_getElem?_getD, List.getElem?_eq_getElem l0]; exact List.getElem_mem _
    constructor
    · rcases List.mem_cons.1 (loS_mem l (l.getD 0 r0)) with e | e
      · rw [e]; exact hl _ g0
      · exact hl _ e
    · rcases List.mem_cons.1 (hiS_mem l (l.getD 0 r0)) with e | e
      · rw [e]; exact hl _ g0
      · exact hl _ e
  obtain ⟨o1, o2⟩ := mem x0 hx
  obtain ⟨o3, o4⟩ := mem (by omega) hy
  have f1 := rational_FromIntW 1 (by decide) (by decide)
  have ck := plot_check x r0 (rq ((1 : Int) : Rat)) w h (by omega) ⟨(by intro x hx; cases hx), (by intro x hx; cases hx), (by decide), (by decide)⟩ ((ok_rq (ok_intW (by decide))).up (by decide))
  have c0 : chk x.length (rv r0) (rv (rq ((1 : Int) : Rat))) w h = 0 := by
    rw [rv_rq]
    unfold chk
    rw [if_neg (by omega), if_neg]
    rw [show rv r0 = 0 by decide +kernel, show ((1 : Int) : Rat) = 1 from rfl]
    have : (0 : Rat) < 1 := by decide
    rintro (k | k)
    · exact k this
    · omega
  rw [c0] at ck
  have e1 := plot_ends x x0 (by omega) hx
  have e2 := plot_ends y (by omega) (by omega) hy
  generalize loS (x.getD 0 r0) x = a1 at *
  generalize hiS (x.getD 0 r0) x = a2 at *
  generalize loS (y.getD 0 r0) y = b1 at *
  generalize hiS (y.getD 0 r0) y = b2 at *
  obtain ⟨rs, hrs⟩ : ∃ rs : Nat → Nat, rs = fun i => h - 1 - plcZ (rv (y.getD i r0)) (rv b1) (rv b2) h := ⟨_, rfl⟩
  obtain ⟨cs, hcs⟩ : ∃ cs : Nat → Nat, cs = fun i => plcZ (rv (x.getD i r0)) (rv a1) (rv a2) w := ⟨_, rfl⟩
  rw [← hrs, ← hcs]
  clear hx hy mem c0
  refine ret_of_awp tab Tryz.func24 rfl rfl (Nat.le_of_ble_eq_true rfl) (fun w0 F0 => ?_)
  repeat' (first | refine stopA 8 tt ?_ | refine wG ?_ | refine wC f1 ?_ | refine wC ck ?_ | refine wC e1 ?_ | refine wC e2 ?_ | refine rg 17 12 ?_ | refine rg 18 12 ?_ | refine wS ?_ ?_ <;> intro _ | refine finG ?_)
  refine stopOut ?_
  repeat' (first | (show awpL _ _ _ _ _; refine Go.Vw.stepMakeK 52 (en := fun (_ : Unit) => [D.nils]) (z := ()) (mm := true) Go.Vw.tt rfl rfl Go.Vw.stt rfl rfl rfl rfl rfl rfl rfl rfl rfl Go.Vw.leL Go.Vw.sc Go.Vw.sc ?_) | refine stopA 9 tt ?_ | refine wG ?_ | refine rg 17 12 ?_ | refine rg 18 12 ?_ | refine wS ?_ ?_ <;> intro _ | refine finG ?_)
  refine stopOut ?_
  refine awp_vec 52 (fun _ => D.nils) rfl (fun e => by have := congrArg List.length e; rw [List.length_replicate] at this; exact absurd this (by show h ≠ 0; omega)) (fun _ _ => rfl) ?_
  repeat' (first | refine wG ?_ | refine rg 17 12 ?_ | refine rg 18 12 ?_ | refine wS ?_ ?_ <;> intro _ | refine finG ?_)
  refine awp_loop1 (fun (i : Nat) => ([(0, .d (rsD x)), (1, .d (rsD y)), (2, .d (.int .i64 w)), (3, .d (.int .i64 h)), (11, .ptr 11 0), (12, .ptr 12 0), (13, .ptr 13 0), (14, .ptr 14 0), (15, .own 52 0 h 22 1), (54, .d (.int .i64 h)), (55, .d (.int .i64 i))], (11, .box 27 ((rC a1).map V.d)) :: (12, .box 27 ((rC a2).map V.d)) :: (13, .box 27 ((rC b1).map V.d)) :: (14, .box 27 ((rC b2).map V.d)) :: (52, .vec 22 (rowsV 1000 w 3 1 i h)) :: famL 1000 i fun _ => .data 3 1 (eI .i64) 0 (List.replicate w 0))) (fun i => i ≤ h) (fun i => h - i) 0 (by omega) ⟨rfl, rfl, rfl, rfl, rfl, rfl, rfl, rfl, rfl, rfl, rfl, rfl⟩ ⟨rfl, rfl, rfl, rfl, (by show some (Blk.vec _ _) = _; rw [← rows_zero]), trivial⟩ (fun i hi => ?_) (fun i => by rw [Bool.and_eq_true]; exact ⟨rfl, grid_cover (l := [(11, .box 27 ((rC a1).map V.d)), (12, .box 27 ((rC a2).map V.d)), (13, .box 27 ((rC b1).map V.d)), (14, .box 27 ((rC b2).map V.d))]) rfl (rows_keys fun j hj => has_fam (l := [(11, _), (12, _), (13, _), (14, _), (52, _)]) rfl hj)⟩)
  by_cases h3 : i < h
  · repeat' (first | refine stopA 12 tt ?_ | refine wG ?_ | refine rg 17 12 ?_ | refine rg 18 12 ?_ | refine wS ?_ ?_ <;> intro _ | refine finG ?_)
    refine stopOut ?_
    repeat' (first | first | (show awpL _ _ _ _ _; refine Go.Vw.stepMakeK (i + 1000) (en := Go.Vw.eI .i64) (z := 0) (mm := true) Go.Vw.tt rfl rfl Go.Vw.stt rfl rfl rfl rfl rfl rfl rfl rfl rfl Go.Vw.leL Go.Vw.sc Go.Vw.sc ?_) | (show awpL _ _ _ _ _; refine Go.Vw.stepStoreVec (cs := rowsV 1000 w 3 1 i h) rfl rfl Go.Vw.stt rfl rfl (by show some (Blk.vec _ (V.subL _ none _)) = _; rw [rows_sub (fun j hj => by omega)]) rfl Go.Vw.tt (by rw [rows_len]; exact h3) ?_) | refine wG ?_ | refine rg 17 12 ?_ | refine rg 18 12 ?_ | refine wS ?_ ?_ <;> intro _ | refine finG ?_)
    refine ⟨i + 1, by omega, by omega, ⟨rfl, rfl, rfl, rfl, rfl, rfl, rfl, rfl, rfl, rfl, iv (by omega), rfl⟩, rfl, rfl, rfl, rfl, (by show some (Blk.vec _ ((rowsV 1000 w _ 1 i h).set i _)) = _; rw [rows_set h3]), ?_, allB_fam fun j hj => ?_⟩
    · simp only [put_blk]
      rw [withBlk_ne (by omega)]
      simp only [put_blk]
      exact new_blk_same
    · simp only [put_blk]
      rw [withBlk_ne (by omega)]
      simp only [put_blk]
      refine new_blk_data (by omega) ?_
      simp only [put_blk]
      exact blk_fam (l := [(11, _), (12, _), (13, _), (14, _), (52, _)]) rfl hj
  · have e : i = h := by omega
    subst e
    repeat' (first | refine wG ?_ | refine rg 17 12 ?_ | refine rg 18 12 ?_ | refine wS ?_ ?_ <;> intro _ | refine finG ?_)
    refine awp_loop1 (fun (n : Nat) => ([(0, .d (rsD x)), (1, .d (rsD y)), (2, .d (.int .i64 w)), (3, .d (.int .i64 i)), (11, .ptr 11 0), (12, .ptr 12 0), (13, .ptr 13 0), (14, .ptr 14 0), (15, .own 52 0 i 22 1), (65, .d (.int .i64 x.length)), (66, .d (.int .i64 n))], (11, .box 27 ((rC a1).map V.d)) :: (12, .box 27 ((rC a2).map V.d)) :: (13, .box 27 ((rC b1).map V.d)) :: (14, .box 27 ((rC b2).map V.d)) :: (52, .vec 22 (rowsV 1000 w 3 1 i i)) :: famL 1000 i fun j => .data 3 1 (eI .i64) 0 (grdG w rs cs n j))) (fun n => n ≤ x.length) (fun n => x.length - n) 0 (by omega) ⟨rfl, rfl, rfl, rfl, rfl, rfl, rfl, rfl, rfl, rfl, rfl, rfl⟩ ⟨rfl, rfl, rfl, rfl, rfl, allB_fam fun j hj => by simp only [put_blk]; exact blk_fam (l := [(11, _), (12, _), (13, _), (14, _), (52, _)]) rfl hj⟩ (fun n hn => ?_) (fun n => by rw [Bool.and_eq_true]; exact ⟨rfl, grid_cover (l := [(11, .box 27 ((rC a1).map V.d)), (12, .box 27 ((rC a2).map V.d)), (13, .box 27 ((rC b1).map V.d)), (14, .box 27 ((rC b2).map V.d))]) rfl (rows_keys fun j hj => has_fam (l := [(11, _), (12, _), (13, _), (14, _), (52, _)]) rfl hj)⟩)
    by_cases h4 : n < x.length
    · have p1 := plot_PlaceN (x.getD n r0) a1 a2 w (gx n h4) o1 o2 (by omega)
      have p2 := plot_PlaceN (y.getD n r0) b1 b2 i (gy n h4) o3 o4 (by omega)
      have ec : plcZ (rv (x.getD n r0)) (rv a1) (rv a2) w = cs n := by rw [hcs]
      have er : i - 1 - plcZ (rv (y.getD n r0)) (rv b1) (rv b2) i = rs n := by rw [hrs]
      have lc : cs n < w := by rw [← ec]; exact plc_lt wp
      have ll := plc_lt (v := rv (y.getD n r0)) (lo := rv b1) (hi := rv b2) h0
      rw [ec] at p1
      generalize okP (rv (x.getD n r0)) (rv a1) (rv a2) w = ok1 at *
      generalize okP (rv (y.getD n r0)) (rv b1) (rv b2) i = ok2 at *
      generalize plcZ (rv (y.getD n r0)) (rv b1) (rv b2) i = ln at *
      clear ec
      have ei : ((i : Int) - 1 - (ln : Int)).toNat = rs n := by omega
      have lr : rs n < i := by omega
      have hv : (rowsV 1000 w 3 1 i i)[((i : Int) - 1 - (ln : Int)).toNat]? = some (.own (rs n + 1000) 0 w 3 1) := by
        rw [ei, rows_get lr]
        unfold rowV
        have : Nat.blt (rs n) i = true := by simpa [Nat.blt_eq] using lr
        rw [this]; rfl
      have gl := grd_len (w := w) (rs := rs) (cs := cs) n (rs n)
      have gb : 0 ≤ (grdG w rs cs n (rs n)).getD (cs n) 0 ∧ (grdG w rs cs n (rs n)).getD (cs n) 0 ≤ n := by
        rw [List.getD_eq_getElem?_getD, List.getElem?_eq_getElem (by omega)]
        exact grd_bd n _ _ (List.getElem_mem _)
      have hbk : ∀ ts : List (Nat × V), (St.of ts ((11, Blk.box 27 ((rC a1).map V.d)) :: (12, Blk.box 27 ((rC a2).map V.d)) :: (13, Blk.box 27 ((rC b1).map V.d)) :: (14, Blk.box 27 ((rC b2).map V.d)) :: (52, Blk.vec 22 (rowsV 1000 w 3 1 i i)) :: famL 1000 i fun j => Blk.data 3 1 (eI .i64) 0 (grdG w rs cs n j))).blk (rs n + 1000) = some (Blk.data 3 1 (eI .i64) 0 (grdG w rs cs n (rs n))) := fun ts => blk_fam (l := [(11, _), (12, _), (13, _), (14, _), (52, _)]) (f := fun j => Blk.data 3 1 (eI .i64) 0 (grdG w rs cs n j)) rfl lr
      repeat' (first | refine stopA 19 tt ?_ | refine wG ?_ | refine wC p1 ?_ | refine wC p2 ?_ | refine rg 17 12 ?_ | refine rg 18 12 ?_ | refine wS ?_ ?_ <;> intro _ | refine finG ?_)
      refine stopOut ?_
      repeat' (first | first | (show awpL _ _ _ _ _; refine Go.Vw.stepLoadVec (cs := rowsV 1000 w 3 1 i i) rfl rfl Go.Vw.stt rfl rfl rfl rfl rfl hv ?_) | (show awpL _ _ _ _ _; refine Go.Vw.stepLoadE (t := 3) (td := ⟨.int .i64, 1, 8, .int .i64 0⟩) (y := .tmp 99) (ety := 3) (k := rs n + 1000) (sz := 1) (i := cs n) (f := 0) (en := Go.Vw.eI .i64) (z := 0) (l := grdG w rs cs n (rs n)) (v := .int .i64 ((grdG w rs cs n (rs n)).getD (cs n) 0)) rfl rfl Go.Vw.stt rfl rfl rfl ?_ rfl (by rw [gl]; exact lc) ?_; (simp only [put_blk]; exact hbk _)) | (show awpL _ _ _ _ _; refine Go.Vw.stepStore (t := 3) (td := ⟨.int .i64, 1, 8, .int .i64 0⟩) (addr := .tmp 102) (x := .tmp 101) (ety := 3) (k := rs n + 1000) (sz := 1) (i := cs n) (f := 0) (en := Go.Vw.eI .i64) (z := 0) (l := grdG w rs cs n (rs n)) (y := .int .i64 ((grdG w rs cs n (rs n)).getD (cs n) 0 + 1)) (cs := [.int .i64 ((grdG w rs cs n (rs n)).getD (cs n) 0 + 1)]) (a' := (grdG w rs cs n (rs n)).getD (cs n) 0 + 1) Go.Vw.tt rfl rfl Go.Vw.stt rfl rfl ?_ rfl rfl rfl Go.Vw.leL (by rw [gl]; exact lc) ?_; (simp only [put_blk]; exact hbk _)) | refine wG ?_ | refine rg 17 12 ?_ | refine rg 18 12 ?_ | refine wS ?_ ?_ <;> intro _ | refine finG ?_)
      refine ⟨n + 1, by omega, by omega, ⟨rfl, rfl, rfl, rfl, rfl, rfl, rfl, rfl, rfl, rfl, iv (by omega), rfl⟩, rfl, rfl, rfl, rfl, rfl, allB_fam fun j hj => ?_⟩
      simp only [put_blk]
      by_cases e : j = rs n
      · subst e
        rw [withBlk_same]
        have : grdG w rs cs (n + 1) (rs n) = (grdG w rs cs n (rs n)).set (cs n) ((grdG w rs cs n (rs n)).getD (cs n) 0 + 1) := if_pos rfl
        rw [this]
      · rw [withBlk_ne (by omega)]
        simp only [put_blk]
        have : grdG w rs cs (n + 1) j = grdG w rs cs n j := if_neg e
        rw [this]
        exact blk_fam (l := [(11, _), (12, _), (13, _), (14, _), (52, _)]) rfl hj
    · have e2 : n = x.length := by omega
      subst e2
      have gl := fun j => grd_len (w := w) (rs := rs) (cs := cs) x.length j
      have gb := fun j => grd_bd (w := w) (rs := rs) (cs := cs) x.length j
      repeat' (first | refine stopA 21 tt ?_ | refine wG ?_ | refine rg 17 12 ?_ | refine rg 18 12 ?_ | refine wS ?_ ?_ <;> intro _ | refine finG ?_)
      refine stopOut ?_
      generalize hR : grdG w rs cs x.length = R at *
      refine awp_slots [(15, .own 52 0 i 22 1)] ((52, .vec 22 (rowsF 1000 w 3 1 (fun j => .sl 1 (eI .i64) 0 (R j)) i i)) :: famL 1000 i fun j => .data 3 1 (eI .i64) 0 (R j)) ⟨rfl, rfl⟩ ⟨(by rw [rowsF_full]; rfl), allB_fam fun j hj => by simp only [put_blk]; exact blk_fam (l := [(11, _), (12, _), (13, _), (14, _), (52, _)]) rfl hj⟩ ?_ (by rw [Bool.and_eq_true]; exact ⟨rfl, grid_cover (l := []) rfl (rowsF_keys fun j hj => has_fam (l := [(52, _)]) rfl hj)⟩)
      refine grid_frz 15 52 1000 w i 22 3 (eI .i64) 0 R (fun j _ => gl j) (by decide) ?_ i (Nat.le_refl _)
      refine awp_unvec 52 (fun l => [.sl 1 (eI .i64) 0 l]) [] ((List.range i).map R) (fun l => .sl 1 (eI .i64) 0 l) rfl (fun _ _ => rfl) (by rw [List.map_map]; rfl) ?_
      have hi0 : ((List.range i).map R).length = i := by rw [List.length_map, List.length_range]
      have hrow : ∀ j, j < i → ((List.range i).map R).getD j [] = R j := fun j hj => by rw [List.getD_eq_getElem?_getD, List.getElem?_map, List.getElem?_range hj]; rfl
      generalize (List.range i).map R = rows at *
      have rl : ∀ j, j < i → (rows.getD j []).length = w := fun j hj => by rw [hrow j hj]; exact gl j
      have rb : ∀ j, j < i → ∀ v ∈ rows.getD j [], 0 ≤ v ∧ v ≤ 1000 := fun j hj v hv => by rw [hrow j hj] at hv; have := gb j v hv; omega
      have tx : ∀ m, m ≤ i → txtG (fun j => rows.getD j []) m = txtG R m := fun m => by
        induction m with
        | zero => exact fun _ => rfl
        | succ m ih => intro hm; simp only [txtG]; rw [ih (by omega), hrow m (by omega)]
      have tl : ∀ m, m ≤ i → (txtG (fun j => rows.getD j []) m).length = m * (w + 1) := fun m => by
        induction m with
        | zero => intro _; rw [Nat.zero_mul]; rfl
        | succ m ih =>
          intro hm
          simp only [txtG]
          rw [List.length_append, ih (by omega), List.length_append, lineB_len, rl m (by omega), Nat.add_mul, Nat.one_mul]; rfl
      have tb : ∀ m, m ≤ i → m * (w + 1) ≤ 5050 := fun m hm => Nat.le_trans (Nat.mul_le_mul (show m ≤ 50 by omega) (show w + 1 ≤ 101 by omega)) (by decide)
      rw [← tx i (Nat.le_refl _)]
      have tS : ∀ m, txtG (fun j => rows.getD j []) (m + 1) = txtG (fun j => rows.getD j []) m ++ (lineB (rows.getD m []) ++ [10]) := fun m => rfl
      have t0 : txtG (fun j => rows.getD j []) 0 = [] := rfl
      generalize txtG (fun j => rows.getD j []) = T8 at *
      clear tx hrow gl gb gx gy hrs hcs hR
      repeat' (first | refine wG ?_ | refine rg 17 12 ?_ | refine rg 18 12 ?_ | refine wS ?_ ?_ <;> intro _ | refine finG ?_)
      refine awp_adopt 22 700 5 1 eB 0 rfl ?_
      refine awp_loop1 (fun (j : Nat) => ([(22, .own 700 0 (T8 j).length 5 1), (104, .own 52 0 i 22 1), (105, .d (.int .i64 i)), (106, .d (.int .i64 j))], [(52, .data 22 1 (fun l => [.sl 1 (eI .i64) 0 l]) [] rows), (700, .data 5 1 eB 0 (T8 j))])) (fun j => j ≤ i) (fun j => i - j) 0 (by omega) ⟨ownEq (by rw [t0]; rfl), rfl, rfl, rfl, rfl⟩ ⟨rfl, blkEq (by rw [t0]), trivial⟩ (fun j hj => ?_)
      have tlj := tl j hj
      have tbj := tb j hj
      by_cases h5 : j < i
      · have rlj := rl j h5
        have rbj := rb j h5
        have tSj := tS j
        have t1 := tl (j + 1) (by omega)
        have t2 := tb (j + 1) (by omega)
        clear tl tb rl rb tS
        generalize T8 j = u0 at *
        repeat' (first | refine wG ?_ | refine rg 17 12 ?_ | refine rg 18 12 ?_ | refine wS ?_ ?_ <;> intro _ | refine finG ?_)
        refine awp_loop1 (fun (m : Nat) => ([(22, .own 700 0 (u0 ++ (lineB (rows.getD j [])).take m).length 5 1), (104, .own 52 0 i 22 1), (105, .d (.int .i64 i)), (106, .d (.int .i64 j)), (110, .d (i64s (rows.getD j []))), (111, .d (.int .i64 (rows.getD j []).length)), (112, .d (.int .i64 m))], [(52, .data 22 1 (fun l => [.sl 1 (eI .i64) 0 l]) [] rows), (700, .data 5 1 eB 0 (u0 ++ (lineB (rows.getD j [])).take m))])) (fun m => m ≤ w) (fun m => w - m) 0 (by omega) ⟨ownEq (by rw [List.take_zero, List.append_nil]), rfl, rfl, rfl, rfl, rfl, rfl, rfl⟩ ⟨rfl, blkEq (by rw [List.take_zero, List.append_nil]), trivial⟩ (fun m hm => ?_)
        have lm : (u0 ++ (lineB (rows.getD j [])).take m).length ≤ 5200 := by rw [List.length_append, List.length_take]; omega
        by_cases h6 : m < w
        · have hg : 0 ≤ (rows.getD j []).getD m 0 ∧ (rows.getD j []).getD m 0 ≤ 1000 := by
            rw [List.getD_eq_getElem?_getD, List.getElem?_eq_getElem (show m < (rows.getD j []).length by omega)]
            exact rbj _ (List.getElem_mem _)
          have hmk := plot_mark ((rows.getD j []).getD m 0) hg.1 (by omega)
          have hmb := markZ_bd hg.1
          have e : u0 ++ (lineB (rows.getD j [])).take m ++ [UInt8.ofNat (markZ ((rows.getD j []).getD m 0)).toNat] = u0 ++ (lineB (rows.getD j [])).take (m + 1) := by
            rw [List.append_assoc, take_mark (by omega)]
          clear tSj t1 rbj
          repeat' (first | refine wG ?_ | refine wC hmk ?_ | refine rg 17 12 ?_ | refine rg 18 12 ?_ | refine wS ?_ ?_ <;> intro _ | refine finG ?_)
          exact ⟨m + 1, by omega, by omega, ⟨ownEq (by rw [← e]), rfl, rfl, rfl, rfl, rfl, iv (by omega), rfl⟩, rfl, blkEq e, trivial⟩
        · have e : m = w := by omega
          subst e
          have et : (lineB (rows.getD j [])).take m = lineB (rows.getD j []) := List.take_of_length_le (by rw [lineB_len]; omega)
          have e2 : u0 ++ (lineB (rows.getD j [])).take m ++ [10] = T8 (j + 1) := by rw [et, tSj, List.append_assoc]
          clear tSj rbj
          repeat' (first | refine wG ?_ | refine rg 17 12 ?_ | refine rg 18 12 ?_ | refine wS ?_ ?_ <;> intro _ | refine finG ?_)
          exact ⟨j + 1, by omega, by omega, ⟨ownEq (by rw [← e2]; rfl), rfl, rfl, iv (by omega), rfl⟩, rfl, blkEq (by rw [← e2]; rfl), trivial⟩
      · have e : j = i := by omega
        subst e
        have hcut : cut 0 (T8 j).length (T8 j) = T8 j := cut_all _
        clear tl tb rl rb tS
        generalize T8 j = u0 at *
        repeat' (first | refine wG ?_ | refine rg 17 12 ?_ | refine rg 18 12 ?_ | refine wS ?_ ?_ <;> intro _ | refine finG ?_)
        all_goals rw [hcut]
end Go.Proofs.YtoppaphffnojdaaGreat

/-
  Scatter: the reference's places. Conditions: sizes.
-/
set_option maxHeartbeats 8000000
namespace Go.Proofs.YtoppaphffnojdaaGreat
open Go.Vw
attribute [local irreducible] awp awpL awpR

theorem ref40_spread (l : List R3) (c : Nat) (h0 : 0 < l.length) (hn : l.length ≤ 64) (hl : ∀ r ∈ l, RatOk r 100) (hc : c ≤ 1000) : Ret Tryz.prog 53 [rsD l, .int .i64 c] (· = i64s (l.map fun v => ((plcZ (rv v) (rv (loS (l.getD 0 r0) l)) (rv (hiS (l.getD 0 r0) l)) c : Nat) : Int))) := by
  have og : ∀ i, i < l.length → RatOk (l.getD i r0) 100 := fun i hi => hl _ (by rw [List.getD_eq_getElem?_getD, List.getElem?_eq_getElem hi]; exact List.getElem_mem _)
  have sr := ref24_Sorted l (by omega) (fun r hr => (hl r hr).up (by decide))
  rw [loS_srt h0, hiS_srt h0]
  have sl : (srt (l.map rv)).length = l.length := by rw [srt_len, List.length_map]
  have os : ∀ q ∈ srt (l.map rv), okQ 100 q := fun q hq => by
    obtain ⟨v, hv, rfl⟩ := List.mem_map.1 ((srt_perm _).subset hq)
    exact okQ_rv (hl v hv) (by decide)
  have o1 : okQ 100 ((srt (l.map rv)).getD 0 0) := os _ (by rw [List.getD_eq_getElem?_getD, List.getElem?_eq_getElem (by omega)]; exact List.getElem_mem _)
  have o2 : okQ 100 ((srt (l.map rv)).getD (l.length - 1) 0) := os _ (by rw [List.getD_eq_getElem?_getD, List.getElem?_eq_getElem (by omega)]; exact List.getElem_mem _)
  have pl := fun i hi => ref40_PlaceN (l.getD i r0) (rq ((srt (l.map rv)).getD 0 0)) (rq ((srt (l.map rv)).getD (l.length - 1) 0)) c (og i hi) (ok_rq o1) (ok_rq o2) hc
  simp only [rv_rq] at pl
  obtain ⟨E, hE⟩ : ∃ E : Nat → List Int, ∀ i, E i = (l.take i).map fun v => ((plcZ (rv v) ((srt (l.map rv)).getD 0 0) ((srt (l.map rv)).getD (l.length - 1) 0) c : Nat) : Int) := ⟨_, fun _ => rfl⟩
  have e0 : E 0 = [] := by rw [hE]; rfl
  have eL : ∀ i, (E i).length ≤ 64 := fun i => by rw [hE, List.length_map, List.length_take]; omega
  have eS : ∀ i, i < l.length → E (i + 1) = E i ++ [((plcZ (rv (l.getD i r0)) ((srt (l.map rv)).getD 0 0) ((srt (l.map rv)).getD (l.length - 1) 0) c : Nat) : Int)] := fun i hi => by
    rw [hE, hE, show l.take (i + 1) = l.take i ++ [l.getD i r0] by rw [List.take_add_one, List.getD_eq_getElem?_getD, List.getElem?_eq_getElem hi]; rfl, List.map_append]; rfl
  rw [show (l.map fun v => ((plcZ (rv v) ((srt (l.map rv)).getD 0 0) ((srt (l.map rv)).getD (l.length - 1) 0) c : Nat) : Int)) = E l.length by rw [hE, List.take_of_length_le (Nat.le_refl _)]]
  clear hE os o1 o2 hl
  generalize srt (l.map rv) = s at *
  have en : ((l.length : Int) - 1).toNat = l.length - 1 := by omega
  rw [← en] at pl
  rw [← en] at eS
  refine ret_of_awp tab Tryz.func53 rfl rfl (Nat.le_of_ble_eq_true rfl) (fun w0 F0 => ?_)
  repeat' (first | refine wG ?_ | refine wC sr ?_ | refine rg 6 16 ?_ | refine wS ?_ ?_ <;> intro _ | refine finG ?_)
  refine awp_adopt 6 500 3 1 (eI .i64) 0 rfl ?_
  refine awp_loop1 (fun (i : Nat) => ([(1, .d (.int .i64 c)), (5, .d (qsD s)), (6, .own 500 0 (E i).length 3 1), (13, .d (rsD l)), (14, .d (.int .i64 l.length)), (15, .d (.int .i64 i))], [(500, .data 3 1 (eI .i64) 0 (E i))])) (fun i => i ≤ l.length) (fun i => l.length - i) 0 (by omega) ⟨rfl, rfl, ownEq (by rw [e0]; rfl), rfl, rfl, rfl, rfl⟩ ⟨blkEq (by rw [e0]), trivial⟩ (fun i hi => ?_)
  have hel := eL i
  by_cases h3 : i < l.length
  · have p1 := pl i h3
    have st := eS i h3
    rw [← sl] at p1 st
    generalize okP (rv (l.getD i r0)) (s.getD 0 0) (s.getD ((s.length : Int) - 1).toNat 0) c = ok at *
    generalize plcZ (rv (l.getD i r0)) (s.getD 0 0) (s.getD ((s.length : Int) - 1).toNat 0) c = pz at *
    clear pl eS og e0 en
    repeat' (first | refine wG ?_ | refine wC p1 ?_ | refine rg 6 16 ?_ | refine wS ?_ ?_ <;> intro _ | refine finG ?_)
    exact ⟨i + 1, by omega, by omega, ⟨rfl, rfl, ownEq (by rw [st]), rfl, rfl, iv (by omega), rfl⟩, blkEq (by rw [st]), trivial⟩
  · have e : i = l.length := by omega
    subst e
    clear pl eS og e0 en
    repeat' (first | refine wG ?_ | refine rg 6 16 ?_ | refine wS ?_ ?_ <;> intro _ | refine finG ?_)
    all_goals rfl
end Go.Proofs.YtoppaphffnojdaaGreat

/-
  Scatter: the reference's grid. Conditions: sizes.
-/
set_option maxHeartbeats 8000000
namespace Go.Proofs.YtoppaphffnojdaaGreat
open Go.Vw
attribute [local irreducible] awp awpL awpR

theorem ref40_ScatterOk (x y : List R3) (w h : Nat) (x0 : 0 < x.length) (xl : x.length ≤ 64) (yl : y.length = x.length) (hx : ∀ r ∈ x, RatOk r 100) (hy : ∀ r ∈ y, RatOk r 100) (wp : 0 < w) (w1 : w ≤ 100) (h0 : 0 < h) (h1 : h ≤ 50) : Ret Tryz.prog 25 [rsD x, rsD y, .int .i64 w, .int .i64 h] (· = .tup [.str (txtG (grdG w (fun i => h - 1 - plcZ (rv (y.getD i r0)) (rv (loS (y.getD 0 r0) y)) (rv (hiS (y.getD 0 r0) y)) h) (fun i => plcZ (rv (x.getD i r0)) (rv (loS (x.getD 0 r0) x)) (rv (hiS (x.getD 0 r0) x)) w) x.length) h), .int .i64 0]) := by
  have f1 := ref23_Of 1 (by decide) (by decide)
  have ck := ref40_check x r0 (rq ((1 : Int) : Rat)) w h (by omega) ⟨(by intro x hx; cases hx), (by intro x hx; cases hx), (by decide), (by decide)⟩ ((ok_rq (ok_intW (by decide))).up (by decide))
  have c0 : chk x.length (rv r0) (rv (rq ((1 : Int) : Rat))) w h = 0 := by
    rw [rv_rq]
    unfold chk
    rw [if_neg (by omega), if_neg]
    rw [show rv r0 = 0 by decide +kernel, show ((1 : Int) : Rat) = 1 from rfl]
    have : (0 : Rat) < 1 := by decide
    rintro (k | k)
    · exact k this
    · omega
  rw [c0] at ck
  have e1 := ref40_spread x w x0 xl hx (by omega)
  have e2 := ref40_spread y h (by omega) (by omega) hy (by omega)
  have gX : ∀ i, i < x.length → (x.map fun v => ((plcZ (rv v) (rv (loS (x.getD 0 r0) x)) (rv (hiS (x.getD 0 r0) x)) w : Nat) : Int)).getD i 0 = ((plcZ (rv (x.getD i r0)) (rv (loS (x.getD 0 r0) x)) (rv (hiS (x.getD 0 r0) x)) w : Nat) : Int) := fun i hi => by
    rw [List.getD_eq_getElem?_getD, List.getElem?_map, List.getElem?_eq_getElem hi, List.getD_eq_getElem?_getD (l := x) (i := i), List.getElem?_eq_getElem hi]; rfl
  have gY : ∀ i, i < x.length → (y.map fun v => ((plcZ (rv v) (rv (loS (y.getD 0 r0) y)) (rv (hiS (y.getD 0 r0) y)) h : Nat) : Int)).getD i 0 = ((plcZ (rv (y.getD i r0)) (rv (loS (y.getD 0 r0) y)) (rv (hiS (y.getD 0 r0) y)) h : Nat) : Int) := fun i hi => by
    rw [List.getD_eq_getElem?_getD, List.getElem?_map, List.getElem?_eq_getElem (show i < y.length by omega), List.getD_eq_getElem?_getD (l := y) (i := i), List.getElem?_eq_getElem (show i < y.length by omega)]; rfl
  have lX : (x.map fun v => ((plcZ (rv v) (rv (loS (x.getD 0 r0) x)) (rv (hiS (x.getD 0 r0) x)) w : Nat) : Int)).length = x.length := List.length_map ..
  have lY : (y.map fun v => ((plcZ (rv v) (rv (loS (y.getD 0 r0) y)) (rv (hiS (y.getD 0 r0) y)) h : Nat) : Int)).length = x.length := by rw [List.length_map, yl]
  generalize (x.map fun v => ((plcZ (rv v) (rv (loS (x.getD 0 r0) x)) (rv (hiS (x.getD 0 r0) x)) w : Nat) : Int)) = XS at *
  generalize (y.map fun v => ((plcZ (rv v) (rv (loS (y.getD 0 r0) y)) (rv (hiS (y.getD 0 r0) y)) h : Nat) : Int)) = YS at *
  have bX : ∀ i, plcZ (rv (x.getD i r0)) (rv (loS (x.getD 0 r0) x)) (rv (hiS (x.getD 0 r0) x)) w < w := fun i => plc_lt wp
  have bY : ∀ i, plcZ (rv (y.getD i r0)) (rv (loS (y.getD 0 r0) y)) (rv (hiS (y.getD 0 r0) y)) h < h := fun i => plc_lt h0
  obtain ⟨rs, hrs⟩ : ∃ rs : Nat → Nat, rs = fun i => h - 1 - plcZ (rv (y.getD i r0)) (rv (loS (y.getD 0 r0) y)) (rv (hiS (y.getD 0 r0) y)) h := ⟨_, rfl⟩
  obtain ⟨cs, hcs⟩ : ∃ cs : Nat → Nat, cs = fun i => plcZ (rv (x.getD i r0)) (rv (loS (x.getD 0 r0) x)) (rv (hiS (x.getD 0 r0) x)) w := ⟨_, rfl⟩
  rw [← hrs, ← hcs]
  have gc : ∀ n, n < x.length → (XS.getD n 0).toNat = cs n ∧ 0 ≤ XS.getD n 0 ∧ cs n < w := fun n hn => by
    have := gX n hn
    have := bX n
    rw [hcs]
    dsimp only
    omega
  have gr : ∀ n, n < x.length → ((h : Int) - 1 - YS.getD n 0).toNat = rs n ∧ 0 ≤ YS.getD n 0 ∧ YS.getD n 0 < h ∧ rs n < h := fun n hn => by
    have := gY n hn
    have := bY n
    rw [hrs]
    dsimp only
    omega
  clear hx hy c0 gX gY bX bY hrs hcs
  refine ret_of_awp tab Tryz.func25 rfl rfl (Nat.le_of_ble_eq_true rfl) (fun w0 F0 => ?_)
  repeat' (first | refine stopA 6 tt ?_ | refine wG ?_ | refine wC f1 ?_ | refine wC ck ?_ | refine wS ?_ ?_ <;> intro _ | refine finG ?_)
  refine stopOut ?_
  repeat' (first | (show awpL _ _ _ _ _; refine Go.Vw.stepMakeK 34 (en := fun (_ : Unit) => [D.nils]) (z := ()) (mm := true) Go.Vw.tt rfl rfl Go.Vw.stt rfl rfl rfl rfl rfl rfl rfl rfl rfl Go.Vw.leL Go.Vw.sc Go.Vw.sc ?_) | refine stopA 7 tt ?_ | refine wG ?_ | refine wS ?_ ?_ <;> intro _ | refine finG ?_)
  refine stopOut ?_
  refine awp_vec 34 (fun _ => D.nils) rfl (fun e => by have := congrArg List.length e; rw [List.length_replicate] at this; exact absurd this (by show h ≠ 0; omega)) (fun _ _ => rfl) ?_
  repeat' (first | refine wG ?_ | refine wS ?_ ?_ <;> intro _ | refine finG ?_)
  refine awp_loop1 (fun (i : Nat) => ([(0, .d (rsD x)), (1, .d (rsD y)), (2, .d (.int .i64 w)), (3, .d (.int .i64 h)), (11, .own 34 0 h 22 1), (36, .d (.int .i64 h)), (37, .d (.int .i64 i))], (34, .vec 22 (rowsV 1000 w 3 1 i h)) :: famL 1000 i fun _ => .data 3 1 (eI .i64) 0 (List.replicate w 0))) (fun i => i ≤ h) (fun i => h - i) 0 (by omega) ⟨rfl, rfl, rfl, rfl, rfl, rfl, rfl, rfl⟩ ⟨(by show some (Blk.vec _ _) = _; rw [← rows_zero]), trivial⟩ (fun i hi => ?_) (fun i => by rw [Bool.and_eq_true]; exact ⟨rfl, grid_cover (l := []) rfl (rows_keys fun j hj => has_fam (l := [(34, _)]) rfl hj)⟩)
  by_cases h3 : i < h
  · repeat' (first | refine stopA 10 tt ?_ | refine wG ?_ | refine wS ?_ ?_ <;> intro _ | refine finG ?_)
    refine stopOut ?_
    repeat' (first | first | (show awpL _ _ _ _ _; refine Go.Vw.stepMakeK (i + 1000) (en := Go.Vw.eI .i64) (z := 0) (mm := true) Go.Vw.tt rfl rfl Go.Vw.stt rfl rfl rfl rfl rfl rfl rfl rfl rfl Go.Vw.leL Go.Vw.sc Go.Vw.sc ?_) | (show awpL _ _ _ _ _; refine Go.Vw.stepStoreVec (cs := rowsV 1000 w 3 1 i h) rfl rfl Go.Vw.stt rfl rfl (by show some (Blk.vec _ (V.subL _ none _)) = _; rw [rows_sub (fun j hj => by omega)]) rfl Go.Vw.tt (by rw [rows_len]; exact h3) ?_) | refine wG ?_ | refine wS ?_ ?_ <;> intro _ | refine finG ?_)
    refine ⟨i + 1, by omega, by omega, ⟨rfl, rfl, rfl, rfl, rfl, rfl, iv (by omega), rfl⟩, (by show some (Blk.vec _ ((rowsV 1000 w _ 1 i h).set i _)) = _; rw [rows_set h3]), ?_, allB_fam fun j hj => ?_⟩
    · simp only [put_blk]
      rw [withBlk_ne (by omega)]
      simp only [put_blk]
      exact new_blk_same
    · simp only [put_blk]
      rw [withBlk_ne (by omega)]
      simp only [put_blk]
      refine new_blk_data (by omega) ?_
      simp only [put_blk]
      exact blk_fam (l := [(34, _)]) rfl hj
  · have e : i = h := by omega
    subst e
    repeat' (first | refine wG ?_ | refine wC e1 ?_ | refine wC e2 ?_ | refine wS ?_ ?_ <;> intro _ | refine finG ?_)
    refine awp_loop1 (fun (n : Nat) => ([(3, .d (.int .i64 i)), (11, .own 34 0 i 22 1), (13, .d (i64s YS)), (51, .d (i64s XS)), (52, .d (.int .i64 XS.length)), (53, .d (.int .i64 n))], (34, .vec 22 (rowsV 1000 w 3 1 i i)) :: famL 1000 i fun j => .data 3 1 (eI .i64) 0 (grdG w rs cs n j))) (fun n => n ≤ x.length) (fun n => x.length - n) 0 (by omega) ⟨rfl, rfl, rfl, rfl, rfl, rfl, rfl⟩ ⟨rfl, allB_fam fun j hj => by simp only [put_blk]; exact blk_fam (l := [(34, _)]) rfl hj⟩ (fun n hn => ?_) (fun n => by rw [Bool.and_eq_true]; exact ⟨rfl, grid_cover (l := []) rfl (rows_keys fun j hj => has_fam (l := [(34, _)]) rfl hj)⟩)
    by_cases h4 : n < x.length
    · obtain ⟨ec, c2, lc⟩ := gc n h4
      obtain ⟨ei, r1, r2, lr⟩ := gr n h4
      have hv : (rowsV 1000 w 3 1 i i)[((i : Int) - 1 - YS.getD n 0).toNat]? = some (.own (rs n + 1000) 0 w 3 1) := by
        rw [ei, rows_get lr]
        unfold rowV
        have : Nat.blt (rs n) i = true := by simpa [Nat.blt_eq] using lr
        rw [this]; rfl
      have gl := grd_len (w := w) (rs := rs) (cs := cs) n (rs n)
      have gb : 0 ≤ (grdG w rs cs n (rs n)).getD (XS.getD n 0).toNat 0 ∧ (grdG w rs cs n (rs n)).getD (XS.getD n 0).toNat 0 ≤ n := by
        rw [ec, List.getD_eq_getElem?_getD, List.getElem?_eq_getElem (by omega)]
        exact grd_bd n _ _ (List.getElem_mem _)
      have hbk : ∀ ts : List (Nat × V), (St.of ts ((34, Blk.vec 22 (rowsV 1000 w 3 1 i i)) :: famL 1000 i fun j => Blk.data 3 1 (eI .i64) 0 (grdG w rs cs n j))).blk (rs n + 1000) = some (Blk.data 3 1 (eI .i64) 0 (grdG w rs cs n (rs n))) := fun ts => blk_fam (l := [(34, _)]) (f := fun j => Blk.data 3 1 (eI .i64) 0 (grdG w rs cs n j)) rfl lr
      clear gc gr
      repeat' (first | refine stopA 16 tt ?_ | refine wG ?_ | refine wS ?_ ?_ <;> intro _ | refine finG ?_)
      refine stopOut ?_
      repeat' (first | first | (show awpL _ _ _ _ _; refine Go.Vw.stepLoadVec (cs := rowsV 1000 w 3 1 i i) rfl rfl Go.Vw.stt rfl rfl rfl rfl rfl hv ?_) | (show awpL _ _ _ _ _; refine Go.Vw.stepLoadE (t := 3) (td := ⟨.int .i64, 1, 8, .int .i64 0⟩) (y := .tmp 69) (ety := 3) (k := rs n + 1000) (sz := 1) (i := (XS.getD n 0).toNat) (f := 0) (en := Go.Vw.eI .i64) (z := 0) (l := grdG w rs cs n (rs n)) (v := .int .i64 ((grdG w rs cs n (rs n)).getD (XS.getD n 0).toNat 0)) rfl rfl Go.Vw.stt rfl rfl rfl ?_ rfl (by rw [gl, ec]; exact lc) ?_; (simp only [put_blk]; exact hbk _)) | (show awpL _ _ _ _ _; refine Go.Vw.stepStore (t := 3) (td := ⟨.int .i64, 1, 8, .int .i64 0⟩) (addr := .tmp 72) (x := .tmp 71) (ety := 3) (k := rs n + 1000) (sz := 1) (i := (XS.getD n 0).toNat) (f := 0) (en := Go.Vw.eI .i64) (z := 0) (l := grdG w rs cs n (rs n)) (y := .int .i64 ((grdG w rs cs n (rs n)).getD (XS.getD n 0).toNat 0 + 1)) (cs := [.int .i64 ((grdG w rs cs n (rs n)).getD (XS.getD n 0).toNat 0 + 1)]) (a' := (grdG w rs cs n (rs n)).getD (XS.getD n 0).toNat 0 + 1) Go.Vw.tt rfl rfl Go.Vw.stt rfl rfl ?_ rfl rfl rfl Go.Vw.leL (by rw [gl, ec]; exact lc) ?_; (simp only [put_blk]; exact hbk _)) | refine wG ?_ | refine wS ?_ ?_ <;> intro _ | refine finG ?_)
      refine ⟨n + 1, by omega, by omega, ⟨rfl, rfl, rfl, rfl, rfl, iv (by omega), rfl⟩, rfl, allB_fam fun j hj => ?_⟩
      simp only [put_blk]
      by_cases e : j = rs n
      · subst e
        rw [withBlk_same]
        have : grdG w rs cs (n + 1) (rs n) = (grdG w rs cs n (rs n)).set (cs n) ((grdG w rs cs n (rs n)).getD (cs n) 0 + 1) := if_pos rfl
        rw [this, ec]
      · rw [withBlk_ne (by omega)]
        simp only [put_blk]
        have : grdG w rs cs (n + 1) j = grdG w rs cs n j := if_neg e
        rw [this]
        exact blk_fam (l := [(34, _)]) rfl hj
    · have e2 : n = x.length := by omega
      subst e2
      have gl := fun j => grd_len (w := w) (rs := rs) (cs := cs) x.length j
      have gb := fun j => grd_bd (w := w) (rs := rs) (cs := cs) x.length j
      clear gc gr e1 e2
      repeat' (first | refine stopA 18 tt ?_ | refine wG ?_ | refine wS ?_ ?_ <;> intro _ | refine finG ?_)
      refine stopOut ?_
      generalize hR : grdG w rs cs x.length = R at *
      refine awp_slots [(11, .own 34 0 i 22 1)] ((34, .vec 22 (rowsF 1000 w 3 1 (fun j => .sl 1 (eI .i64) 0 (R j)) i i)) :: famL 1000 i fun j => .data 3 1 (eI .i64) 0 (R j)) ⟨rfl, rfl⟩ ⟨(by rw [rowsF_full]; rfl), allB_fam fun j hj => by simp only [put_blk]; exact blk_fam (l := [(34, _)]) rfl hj⟩ ?_ (by rw [Bool.and_eq_true]; exact ⟨rfl, grid_cover (l := []) rfl (rowsF_keys fun j hj => has_fam (l := [(34, _)]) rfl hj)⟩)
      refine grid_frz 11 34 1000 w i 22 3 (eI .i64) 0 R (fun j _ => gl j) (by decide) ?_ i (Nat.le_refl _)
      refine awp_unvec 34 (fun l => [.sl 1 (eI .i64) 0 l]) [] ((List.range i).map R) (fun l => .sl 1 (eI .i64) 0 l) rfl (fun _ _ => rfl) (by rw [List.map_map]; rfl) ?_
      have hi0 : ((List.range i).map R).length = i := by rw [List.length_map, List.length_range]
      have hrow : ∀ j, j < i → ((List.range i).map R).getD j [] = R j := fun j hj => by rw [List.getD_eq_getElem?_getD, List.getElem?_map, List.getElem?_range hj]; rfl
      generalize (List.range i).map R = rows at *
      have rl : ∀ j, j < i → (rows.getD j []).length = w := fun j hj => by rw [hrow j hj]; exact gl j
      have rb : ∀ j, j < i → ∀ v ∈ rows.getD j [], 0 ≤ v ∧ v ≤ 1000 := fun j hj v hv => by rw [hrow j hj] at hv; have := gb j v hv; omega
      have tx : ∀ m, m ≤ i → txtG (fun j => rows.getD j []) m = txtG R m := fun m => by
        induction m with
        | zero => exact fun _ => rfl
        | succ m ih => intro hm; simp only [txtG]; rw [ih (by omega), hrow m (by omega)]
      have tl : ∀ m, m ≤ i → (txtG (fun j => rows.getD j []) m).length = m * (w + 1) := fun m => by
        induction m with
        | zero => intro _; rw [Nat.zero_mul]; rfl
        | succ m ih =>
          intro hm
          simp only [txtG]
          rw [List.length_append, ih (by omega), List.length_append, lineB_len, rl m (by omega), Nat.add_mul, Nat.one_mul]; rfl
      have tb : ∀ m, m ≤ i → m * (w + 1) ≤ 5050 := fun m hm => Nat.le_trans (Nat.mul_le_mul (show m ≤ 50 by omega) (show w + 1 ≤ 101 by omega)) (by decide)
      rw [← tx i (Nat.le_refl _)]
      have tS : ∀ m, txtG (fun j => rows.getD j []) (m + 1) = txtG (fun j => rows.getD j []) m ++ (lineB (rows.getD m []) ++ [10]) := fun m => rfl
      have t0 : txtG (fun j => rows.getD j []) 0 = [] := rfl
      generalize txtG (fun j => rows.getD j []) = T8 at *
      clear tx hrow gl gb hR
      repeat' (first | refine wG ?_ | refine wS ?_ ?_ <;> intro _ | refine finG ?_)
      refine awp_loop1 (fun (j : Nat) => ([(16, .d (.str (T8 j))), (74, .own 34 0 i 22 1), (75, .d (.int .i64 i)), (76, .d (.int .i64 j))], [(34, .data 22 1 (fun l => [.sl 1 (eI .i64) 0 l]) [] rows)])) (fun j => j ≤ i) (fun j => i - j) 0 (by omega) ⟨(by rw [t0]; rfl), rfl, rfl, rfl, rfl⟩ ⟨rfl, trivial⟩ (fun j hj => ?_)
      have tlj := tl j hj
      have tbj := tb j hj
      by_cases h5 : j < i
      · have rlj := rl j h5
        have tSj := tS j
        have ln := ref40_line (rows.getD j []) (by omega) (rb j h5)
        have ll : (lineB (rows.getD j []) ++ [10]).length = w + 1 := by rw [List.length_append, lineB_len, rlj]; rfl
        clear tl tb rl rb tS
        generalize lineB (rows.getD j []) ++ [10] = u1 at *
        generalize T8 j = u0 at *
        repeat' (first | refine wG ?_ | refine wC ln ?_ | refine wS ?_ ?_ <;> intro _ | refine finG ?_)
        exact ⟨j + 1, by omega, by omega, ⟨(by rw [tSj]; rfl), rfl, rfl, iv (by omega), rfl⟩, rfl, trivial⟩
      · have e : j = i := by omega
        subst e
        clear tl tb rl rb tS
        repeat' (first | refine wG ?_ | refine wS ?_ ?_ <;> intro _ | refine finG ?_)
        all_goals rfl
end Go.Proofs.YtoppaphffnojdaaGreat

/-
  Scatter: the program and the reference hand back the same, errors too. Conditions: sizes of the numbers.
-/
set_option maxHeartbeats 8000000
namespace Go.Proofs.YtoppaphffnojdaaGreat
open Go.Vw
attribute [local irreducible] awp awpL awpR

theorem chk_iff {n : Nat} {w h : Int} : chk n 0 1 w h = 0 ↔ (1 ≤ n ∧ n ≤ 64 ∧ 1 ≤ w ∧ w ≤ 100 ∧ 1 ≤ h ∧ h ≤ 50) := by
  unfold chk
  have : (0 : Rat) < 1 := by decide
  split
  · constructor
    · intro k; cases k
    · omega
  · split
    · rename_i k
      constructor
      · intro k; cases k
      · intro ⟨a, b, c, d, e, f⟩
        rcases k with k | k
        · exact absurd this k
        · omega
    · rename_i a k
      constructor
      · intro _
        have k2 : ¬ (w < 1 ∨ 100 < w ∨ h < 1 ∨ 50 < h) := fun e => k (.inr e)
        omega
      · intro _; rfl
theorem scatters (x y : List R3) (w h : Int) (hxl : x.length < 9223372036854775807) (hyl : y.length < 9223372036854775807) (hx : ∀ r ∈ x, RatOk r 100) (hy : ∀ r ∈ y, RatOk r 100) (w1 : -9223372036854775808 ≤ w) (w2 : w < 9223372036854775808) (h1 : -9223372036854775808 ≤ h) (h2 : h < 9223372036854775808) : ∃ (t : List UInt8) (e : Int), t.length ≤ 6000 ∧ Ret Tryz.prog 24 [rsD x, rsD y, .int .i64 w, .int .i64 h] (· = .tup [.str t, .int .i64 e]) ∧ Ret Tryz.prog 25 [rsD x, rsD y, .int .i64 w, .int .i64 h] (· = .tup [.str t, .int .i64 e]) := by
  by_cases c1 : x.length = y.length
  · have f1 := rational_FromIntW 1 (by decide) (by decide)
    have f2 := ref23_Of 1 (by decide) (by decide)
    have o0 : RatOk r0 100 := ⟨(by intro x hx; cases hx), (by intro x hx; cases hx), (by decide), (by decide)⟩
    have k1 := plot_check x r0 (rq ((1 : Int) : Rat)) w h (by omega) o0 ((ok_rq (ok_intW (by decide))).up (by decide))
    have k2 := ref40_check x r0 (rq ((1 : Int) : Rat)) w h (by omega) o0 ((ok_rq (ok_intW (by decide))).up (by decide))
    rw [rv_rq, show rv r0 = 0 by decide +kernel, show ((1 : Int) : Rat) = 1 from rfl] at k1 k2
    have ci := chk_iff (n := x.length) (w := w) (h := h)
    by_cases c2 : chk x.length 0 1 w h = 0
    · obtain ⟨a1, a2, a3, a4, a5, a6⟩ := ci.1 c2
      obtain ⟨W, rfl⟩ : ∃ W : Nat, w = W := ⟨w.toNat, by omega⟩
      obtain ⟨H, rfl⟩ : ∃ H : Nat, h = H := ⟨h.toNat, by omega⟩
      refine ⟨_, 0, ?_, plot_ScatterOk x y W H (by omega) (by omega) c1.symm hx hy (by omega) (by omega) (by omega) (by omega), ref40_ScatterOk x y W H (by omega) (by omega) c1.symm hx hy (by omega) (by omega) (by omega) (by omega)⟩
      have tl : ∀ (R : Nat → List Int), (∀ j, (R j).length = W) → ∀ m, (txtG R m).length = m * (W + 1) := fun R hR m => by
        induction m with
        | zero => rw [Nat.zero_mul]; rfl
        | succ m ih =>
          simp only [txtG]
          rw [List.length_append, ih, List.length_append, lineB_len, hR, Nat.add_mul, Nat.one_mul]; rfl
      rw [tl _ (fun j => grd_len _ j)]
      exact Nat.le_trans (Nat.mul_le_mul (show H ≤ 50 by omega) (show W + 1 ≤ 101 by omega)) (by decide)
    · refine ⟨[], chk x.length 0 1 w h, by decide, ?_, ?_⟩
      · generalize chk x.length 0 1 w h = e at *
        clear ci
        refine ret_of_awp tab Tryz.func24 rfl rfl (Nat.le_of_ble_eq_true rfl) (fun w0 F0 => ?_)
        repeat' (first | refine wG ?_ | refine wC f1 ?_ | refine wC k1 ?_ | refine rg 17 12 ?_ | refine rg 18 12 ?_ | refine wS ?_ ?_ <;> intro _ | refine finG ?_)
        rfl
      · generalize chk x.length 0 1 w h = e at *
        clear ci
        refine ret_of_awp tab Tryz.func25 rfl rfl (Nat.le_of_ble_eq_true rfl) (fun w0 F0 => ?_)
        repeat' (first | refine wG ?_ | refine wC f2 ?_ | refine wC k2 ?_ | refine wS ?_ ?_ <;> intro _ | refine finG ?_)
        rfl
  · refine ⟨[], 6, by decide, ?_, ?_⟩
    · clear hx hy
      refine ret_of_awp tab Tryz.func24 rfl rfl (Nat.le_of_ble_eq_true rfl) (fun w0 F0 => ?_)
      repeat' (first | refine wG ?_ | refine rg 17 12 ?_ | refine rg 18 12 ?_ | refine wS ?_ ?_ <;> intro _ | refine finG ?_)
      rfl
    · clear hx hy
      refine ret_of_awp tab Tryz.func25 rfl rfl (Nat.le_of_ble_eq_true rfl) (fun w0 F0 => ?_)
      repeat' (first | refine wG ?_ | refine wS ?_ ?_ <;> intro _ | refine finG ?_)
      rfl
end Go.Proofs.YtoppaphffnojdaaGreat

set_option maxHeartbeats 8000000
namespace Go.Proofs.YtoppaphffnojdaaGreat
open Go.Vw
attribute [local irreducible] awp awpL awpR

noncomputable def ratW (l : List Int) (a : Nat) : Rat × Nat := Classical.epsilon fun p : Rat × Nat => okQ 10 p.1 ∧ p.2 ≤ l.length ∧ RetB Tryz.prog 26 [.ptr 1000 0] (lookB [(1000, tp l a)]) (.d (qD p.1)) (lookB [(1000, tp l p.2)])
theorem ratW_spec (l : List Int) (a : Nat) (hl : l.length ≤ 400) (hx : I64 l) (ha : a ≤ l.length) : okQ 10 (ratW l a).1 ∧ (ratW l a).2 ≤ l.length ∧ RetB Tryz.prog 26 [.ptr 1000 0] (lookB [(1000, tp l a)]) (.d (qD (ratW l a).1)) (lookB [(1000, tp l (ratW l a).2)]) := by
  obtain ⟨q, b, h1, h2, h3⟩ := world_Rat l a hl hx ha
  exact Classical.epsilon_spec (p := fun p : Rat × Nat => okQ 10 p.1 ∧ p.2 ≤ l.length ∧ RetB Tryz.prog 26 [.ptr 1000 0] (lookB [(1000, tp l a)]) (.d (qD p.1)) (lookB [(1000, tp l p.2)])) ⟨(q, b), h1, h2, h3⟩
noncomputable def nextW (l : List Int) (a : Nat) (n : Int) : Int × Nat := Classical.epsilon fun p : Int × Nat => 0 ≤ p.1 ∧ (p.1 < n ∨ p.1 = 0) ∧ p.2 ≤ l.length ∧ RetB Tryz.prog 18 [.ptr 1000 0, .d (.int .i64 n)] (lookB [(1000, tp l a)]) (.d (.int .i64 p.1)) (lookB [(1000, tp l p.2)])
theorem nextW_spec (l : List Int) (a : Nat) (n : Int) (hl : l.length ≤ 400) (hx : I64 l) (ha : a ≤ l.length) (h1 : -9223372036854775808 ≤ n) (h2 : n < 10000000) : 0 ≤ (nextW l a n).1 ∧ ((nextW l a n).1 < n ∨ (nextW l a n).1 = 0) ∧ (nextW l a n).2 ≤ l.length ∧ RetB Tryz.prog 18 [.ptr 1000 0, .d (.int .i64 n)] (lookB [(1000, tp l a)]) (.d (.int .i64 (nextW l a n).1)) (lookB [(1000, tp l (nextW l a n).2)]) := by
  obtain ⟨r, b, g1, g2, g3, g4⟩ := world_Next l a n hl hx ha h1 h2
  exact Classical.epsilon_spec (p := fun p : Int × Nat => 0 ≤ p.1 ∧ (p.1 < n ∨ p.1 = 0) ∧ p.2 ≤ l.length ∧ RetB Tryz.prog 18 [.ptr 1000 0, .d (.int .i64 n)] (lookB [(1000, tp l a)]) (.d (.int .i64 p.1)) (lookB [(1000, tp l p.2)])) ⟨(r, b), g1, g2, g3, g4⟩
noncomputable def boolW (l : List Int) (a : Nat) (n : Int) : Bool × Nat := Classical.epsilon fun p : Bool × Nat => p.2 ≤ l.length ∧ RetB Tryz.prog 12 [.ptr 1000 0, .d (.int .i64 n)] (lookB [(1000, tp l a)]) (.d (.bool p.1)) (lookB [(1000, tp l p.2)])
theorem boolW_spec (l : List Int) (a : Nat) (n : Int) (hl : l.length ≤ 400) (hx : I64 l) (ha : a ≤ l.length) (h1 : -9223372036854775807 ≤ n) (h2 : n < 10000000) : (boolW l a n).2 ≤ l.length ∧ RetB Tryz.prog 12 [.ptr 1000 0, .d (.int .i64 n)] (lookB [(1000, tp l a)]) (.d (.bool (boolW l a n).1)) (lookB [(1000, tp l (boolW l a n).2)]) := by
  obtain ⟨r, b, g1, g2⟩ := world_Bool l a n hl hx ha h1 h2
  exact Classical.epsilon_spec (p := fun p : Bool × Nat => p.2 ≤ l.length ∧ RetB Tryz.prog 12 [.ptr 1000 0, .d (.int .i64 n)] (lookB [(1000, tp l a)]) (.d (.bool p.1)) (lookB [(1000, tp l p.2)])) ⟨(r, b), g1, g2⟩
noncomputable def valsW (l : List Int) : Nat → List Rat → Nat → List Rat × Nat
  | 0, vs, a => (vs, a)
  | k + 1, vs, a => if (boolW l (ratW l a).2 4).1 = true then valsW l k (vs ++ [vs.getD (nextW l (boolW l (ratW l a).2 4).2 vs.length).1.toNat 0]) (nextW l (boolW l (ratW l a).2 4).2 vs.length).2 else valsW l k (vs ++ [(ratW l a).1]) (boolW l (ratW l a).2 4).2
theorem valsW_ok (l : List Int) (hl : l.length ≤ 400) (hx : I64 l) : ∀ (k : Nat) (vs : List Rat) (a : Nat), a ≤ l.length → 1 ≤ vs.length → vs.length + k < 1000 → (∀ q ∈ vs, okQ 10 q) → (valsW l k vs a).1.length = vs.length + k ∧ (valsW l k vs a).2 ≤ l.length ∧ ∀ q ∈ (valsW l k vs a).1, okQ 10 q
  | 0, vs, a, ha, h1, h2, h3 => ⟨rfl, ha, h3⟩
  | k + 1, vs, a, ha, h1, h2, h3 => by
    obtain ⟨r1, r2, _⟩ := ratW_spec l a hl hx ha
    obtain ⟨b1, _⟩ := boolW_spec l (ratW l a).2 4 hl hx r2 (by decide) (by decide)
    unfold valsW
    split
    · obtain ⟨n1, n2, n3, _⟩ := nextW_spec l (boolW l (ratW l a).2 4).2 vs.length hl hx b1 (by omega) (by omega)
      have := valsW_ok l hl hx k (vs ++ [vs.getD (nextW l (boolW l (ratW l a).2 4).2 vs.length).1.toNat 0]) (nextW l (boolW l (ratW l a).2 4).2 vs.length).2 n3 (by simp) (by simp; omega) (by
        intro q hq
        rcases List.mem_append.1 hq with h | h
        · exact h3 q h
        · rw [List.mem_singleton.1 h]
          exact getD_ok h3 (by omega))
      simp only [List.length_append, List.length_singleton] at this
      exact ⟨by omega, this.2⟩
    · have := valsW_ok l hl hx k (vs ++ [(ratW l a).1]) (boolW l (ratW l a).2 4).2 b1 (by simp) (by simp; omega) (by
        intro q hq
        rcases List.mem_append.1 hq with h | h
        · exact h3 q h
        · rw [List.mem_singleton.1 h]; exact r1)
      simp only [List.length_append, List.length_singleton] at this
      exact ⟨by omega, this.2⟩
theorem world_Values (l : List Int) (a : Nat) (n : Int) (hl : l.length ≤ 400) (hx : I64 l) (ha : a ≤ l.length) (h1 : 1 ≤ n) (h2 : n < 900) : ∃ (vs : List Rat) (b : Nat), 1 ≤ vs.length ∧ vs.length ≤ n.toNat ∧ (∀ q ∈ vs, okQ 10 q) ∧ b ≤ l.length ∧ RetB Tryz.prog 16 [.ptr 1000 0, .d (.int .i64 n)] (lookB [(1000, tp l a)]) (.d (qsD vs)) (lookB [(1000, tp l b)]) := by
  obtain ⟨r1, r2, hR⟩ := ratW_spec l a hl hx ha
  obtain ⟨n1, n2, n3, hN⟩ := nextW_spec l (ratW l a).2 n hl hx r2 (by omega) (by omega)
  generalize ratW l a = x0 at *
  obtain ⟨q0, a1⟩ := x0
  simp only at r1 r2 hR n1 n2 n3 hN
  generalize nextW l a1 n = k0 at *
  obtain ⟨k, a2⟩ := k0
  simp only at n1 n2 n3 hN
  obtain ⟨k, rfl⟩ : ∃ m : Nat, k = m := ⟨k.toNat, by omega⟩
  have hfin := valsW_ok l hl hx k [q0] a2 n3 (by simp) (by simp; omega) (by intro q hq; rw [List.mem_singleton.1 hq]; exact r1)
  refine ⟨(valsW l k [q0] a2).1, (valsW l k [q0] a2).2, by rw [hfin.1]; simp, by rw [hfin.1]; simp; omega, hfin.2.2, hfin.2.1, ?_⟩
  obtain ⟨F, hF⟩ : ∃ F, valsW l k [q0] a2 = F := ⟨_, rfl⟩
  rw [hF]
  refine retB_of_awp tab [1000] Tryz.func16 rfl rfl rfl (Nat.le_of_ble_eq_true rfl) rfl ⟨Nat.le_refl _, trivial⟩ (fun w0 F0 A io0 => ?_)
  repeat' (first | refine stepLitO (d := 10) (en := qC) (z := 0) rfl rfl rfl rfl rfl (LeR.cons rfl leL LeR.nil) ?_ | refine wG ?_ | refine wD [] hR ?_ | refine wD [] hN ?_ | refine wS ?_ ?_ <;> intro _ | refine wB ?_ ?_)
  refine awp_loop3 (fun (vs : List Rat) (b : Nat) (i : Nat) => ([(0, .ptr 1000 0), (5, .own 10 0 vs.length 27 3), (6, .d (.int .i64 i))], [(1000, tp l b), (10, .data 27 3 qC 0 vs)])) (fun vs b i => b ≤ l.length ∧ 1 ≤ vs.length ∧ vs.length + i < 1000 ∧ (∀ q ∈ vs, okQ 10 q) ∧ valsW l i vs b = F) (fun vs b i => i) [q0] a2 k ⟨n3, by simp, by simp; omega, by intro q hq; rw [List.mem_singleton.1 hq]; exact r1, hF⟩ ⟨rfl, rfl, rfl, rfl⟩ ⟨rfl, rfl, trivial⟩ (fun vs b i hi => ?_)
  obtain ⟨i1, i2, i3, i4, i5⟩ := hi
  by_cases hi0 : i = 0
  · subst hi0
    have e : F = (vs, b) := i5.symm
    subst e
    repeat' (first | refine stopA 9 tt ?_ | refine wG ?_ | refine wS ?_ ?_ <;> intro _ | refine wB ?_ ?_)
    refine stopOut ?_
    refine awp_frz 10 rfl ?_
    repeat' (first | refine wG ?_ | refine wS ?_ ?_ <;> intro _ | refine wB ?_ ?_)
    all_goals first | exact leVT | exact ⟨rfl, trivial⟩
  · obtain ⟨j, rfl⟩ : ∃ j, i = j + 1 := ⟨i - 1, by omega⟩
    obtain ⟨r1', r2', hR2⟩ := ratW_spec l b hl hx i1
    unfold valsW at i5
    generalize ratW l b = x1 at *
    obtain ⟨q1, b1⟩ := x1
    simp only at r1' r2' hR2 i5
    obtain ⟨b1', hB⟩ := boolW_spec l b1 4 hl hx r2' (by decide) (by decide)
    generalize boolW l b1 4 = x2 at *
    obtain ⟨t, b2⟩ := x2
    simp only at b1' hB i5
    cases t
    · rw [if_neg (by decide)] at i5
      have hk : ∀ q ∈ vs ++ [q1], okQ 10 q := by
        intro q hq
        rcases List.mem_append.1 hq with h | h
        · exact i4 q h
        · rw [List.mem_singleton.1 h]; exact r1'
      have keep := And.intro hk i5
      clear hk i5 i4 hfin hF
      repeat' (first | refine wG ?_ | refine wD [] hR2 ?_ | refine wD [] hB ?_ | refine wS ?_ ?_ <;> intro _ | refine wB ?_ ?_)
      exact ⟨vs ++ [q1], b2, j, ⟨b1', by simp, by simp; omega, keep.1, keep.2⟩, by omega, ⟨rfl, by simp; rfl, iv (by omega), rfl⟩, rfl, rfl, trivial⟩
    · rw [if_pos rfl] at i5
      obtain ⟨n1', n2', n3', hN2⟩ := nextW_spec l b2 (vs.length : Int) hl hx b1' (by omega) (by omega)
      generalize nextW l b2 (vs.length : Int) = x3 at *
      obtain ⟨z, b3⟩ := x3
      simp only at n1' n2' n3' hN2 i5
      have hz : z.toNat < vs.length := by omega
      have hk : ∀ q ∈ vs ++ [vs.getD z.toNat 0], okQ 10 q := by
        intro q hq
        rcases List.mem_append.1 hq with h | h
        · exact i4 q h
        · rw [List.mem_singleton.1 h]; exact getD_ok i4 hz
      have keep := And.intro hk i5
      clear hk i5 i4 hfin hF
      repeat' (first | refine wG ?_ | refine wD [] hR2 ?_ | refine wD [] hB ?_ | refine wD [] hN2 ?_ | refine wS ?_ ?_ <;> intro _ | refine wB ?_ ?_)
      exact ⟨vs ++ [vs.getD z.toNat 0], b3, j, ⟨n3', by simp, by simp; omega, keep.1, keep.2⟩, by omega, ⟨rfl, by simp; rfl, iv (by omega), rfl⟩, rfl, rfl, trivial⟩
end Go.Proofs.YtoppaphffnojdaaGreat

set_option maxHeartbeats 16000000
namespace Go.Proofs.YtoppaphffnojdaaGreat
open Go.Vw
attribute [local irreducible] awp awpL awpR

abbrev ok20 (x : R3) : Prop := RatOk x 20
noncomputable def oddW (l : List Int) (a : Nat) : R3 × Nat := Classical.epsilon fun p : R3 × Nat => ok20 p.1 ∧ p.2 ≤ l.length ∧ RetB Tryz.prog 11 [.ptr 1000 0] (lookB [(1000, tp l a)]) (.d (rD p.1)) (lookB [(1000, tp l p.2)])
theorem oddW_spec (l : List Int) (a : Nat) (hl : l.length ≤ 400) (hx : I64 l) (ha : a ≤ l.length) : ok20 (oddW l a).1 ∧ (oddW l a).2 ≤ l.length ∧ RetB Tryz.prog 11 [.ptr 1000 0] (lookB [(1000, tp l a)]) (.d (rD (oddW l a).1)) (lookB [(1000, tp l (oddW l a).2)]) := by
  obtain ⟨q, b, h1, h2, h3⟩ := world_Odd l a hl hx ha
  exact Classical.epsilon_spec (p := fun p : R3 × Nat => ok20 p.1 ∧ p.2 ≤ l.length ∧ RetB Tryz.prog 11 [.ptr 1000 0] (lookB [(1000, tp l a)]) (.d (rD p.1)) (lookB [(1000, tp l p.2)])) ⟨(q, b), h1, h2, h3⟩
noncomputable def oddsW (l : List Int) : Nat → List (R3) → Nat → List (R3) × Nat
  | 0, xs, a => (xs, a)
  | k + 1, xs, a => oddsW l k (xs ++ [(oddW l a).1]) (oddW l a).2
theorem oddsW_ok (l : List Int) (hl : l.length ≤ 400) (hx : I64 l) : ∀ (k : Nat) (xs : List (R3)) (a : Nat), a ≤ l.length → (∀ x ∈ xs, ok20 x) → (oddsW l k xs a).1.length = xs.length + k ∧ (oddsW l k xs a).2 ≤ l.length ∧ ∀ x ∈ (oddsW l k xs a).1, ok20 x
  | 0, xs, a, ha, h => ⟨rfl, ha, h⟩
  | k + 1, xs, a, ha, h => by
    obtain ⟨r1, r2, _⟩ := oddW_spec l a hl hx ha
    unfold oddsW
    have := oddsW_ok l hl hx k (xs ++ [(oddW l a).1]) (oddW l a).2 r2 (by
      intro q hq
      rcases List.mem_append.1 hq with h' | h'
      · exact h q h'
      · rw [List.mem_singleton.1 h']; exact r1)
    simp only [List.length_append, List.length_singleton] at this
    exact ⟨by omega, this.2⟩
theorem world_OddRow (l : List Int) (a : Nat) (n : Nat) (hl : l.length ≤ 400) (hx : I64 l) (ha : a ≤ l.length) (h2 : n < 900) : ∃ (xs : List (R3)) (b : Nat), xs.length = n ∧ (∀ x ∈ xs, ok20 x) ∧ b ≤ l.length ∧ RetB Tryz.prog 23 [.ptr 1000 0, .d (.int .i64 n)] (lookB [(1000, tp l a)]) (.d (rsD xs)) (lookB [(1000, tp l b)]) := by
  have hfin := oddsW_ok l hl hx n [] a ha (by simp)
  refine ⟨(oddsW l n [] a).1, (oddsW l n [] a).2, by rw [hfin.1]; simp, hfin.2.2, hfin.2.1, ?_⟩
  obtain ⟨F, hF⟩ : ∃ F, oddsW l n [] a = F := ⟨_, rfl⟩
  rw [hF]
  refine retB_of_awp tab [1000] Tryz.func23 rfl rfl rfl (Nat.le_of_ble_eq_true rfl) rfl ⟨Nat.le_refl _, trivial⟩ (fun w0 F0 A io0 => ?_)
  repeat' (first | refine stopA 3 tt ?_ | refine wG ?_ | refine wS ?_ ?_ <;> intro _ | refine wB ?_ ?_)
  refine stopOut ?_
  refine goA ?_
  refine awp_adopt 5 700 27 3 rC r0 rfl ?_
  refine awp_loop3 (fun (xs : List (R3)) (b : Nat) (i : Nat) => ([(0, .ptr 1000 0), (1, .d (.int .i64 n)), (5, .own 700 0 xs.length 27 3), (6, .d (.int .i64 ((n : Int) - i)))], [(1000, tp l b), (700, .data 27 3 rC r0 xs)])) (fun xs b i => b ≤ l.length ∧ i ≤ n ∧ xs.length + i = n ∧ (∀ x ∈ xs, ok20 x) ∧ oddsW l i xs b = F) (fun xs b i => i) [] a n ⟨ha, Nat.le_refl _, by simp, by simp, hF⟩ ⟨rfl, rfl, rfl, iv (by omega), rfl⟩ ⟨rfl, rfl, trivial⟩ (fun xs b i hi => ?_)
  obtain ⟨i1, i2, i3, i4, i5⟩ := hi
  by_cases hi0 : i = 0
  · subst hi0
    have e : F = (xs, b) := i5.symm
    subst e
    repeat' (first | refine stopA 6 tt ?_ | refine wG ?_ | refine wS ?_ ?_ <;> intro _ | refine wB ?_ ?_)
    refine stopOut ?_
    refine awp_frz 700 rfl ?_
    repeat' (first | refine wG ?_ | refine wS ?_ ?_ <;> intro _ | refine wB ?_ ?_)
    all_goals first | exact leVT | exact ⟨rfl, trivial⟩
  · obtain ⟨j, rfl⟩ : ∃ j, i = j + 1 := ⟨i - 1, by omega⟩
    obtain ⟨r1', r2', hR⟩ := oddW_spec l b hl hx i1
    unfold oddsW at i5
    generalize oddW l b = x1 at *
    obtain ⟨q1, b1⟩ := x1
    simp only at r1' r2' hR i5
    have hk : ∀ q ∈ xs ++ [q1], ok20 q := by
      intro q hq
      rcases List.mem_append.1 hq with h | h
      · exact i4 q h
      · rw [List.mem_singleton.1 h]; exact r1'
    have keep := And.intro hk i5
    clear hk i5 i4 hfin hF
    repeat' (first | refine wG ?_ | refine wD [] hR ?_ | refine wS ?_ ?_ <;> intro _ | refine wB ?_ ?_)
    exact ⟨xs ++ [q1], b1, j, ⟨r2', by omega, by simp; omega, keep.1, keep.2⟩, by omega, ⟨rfl, rfl, ownEq (by simp), iv (by omega), rfl⟩, rfl, rfl, trivial⟩
noncomputable def rat2W (l : List Int) (a : Nat) : Rat × Nat := Classical.epsilon fun p : Rat × Nat => okQ 10 p.1 ∧ p.2 ≤ l.length ∧ RetB Tryz.prog 26 [.ptr 1000 0] (lookB [(1000, tp l a)]) (.d (qD p.1)) (lookB [(1000, tp l p.2)])
theorem rat2W_spec (l : List Int) (a : Nat) (hl : l.length ≤ 400) (hx : I64 l) (ha : a ≤ l.length) : okQ 10 (rat2W l a).1 ∧ (rat2W l a).2 ≤ l.length ∧ RetB Tryz.prog 26 [.ptr 1000 0] (lookB [(1000, tp l a)]) (.d (qD (rat2W l a).1)) (lookB [(1000, tp l (rat2W l a).2)]) := by
  obtain ⟨q, b, h1, h2, h3⟩ := world_Rat l a hl hx ha
  exact Classical.epsilon_spec (p := fun p : Rat × Nat => okQ 10 p.1 ∧ p.2 ≤ l.length ∧ RetB Tryz.prog 26 [.ptr 1000 0] (lookB [(1000, tp l a)]) (.d (qD p.1)) (lookB [(1000, tp l p.2)])) ⟨(q, b), h1, h2, h3⟩
noncomputable def rat2sW (l : List Int) : Nat → List (Rat) → Nat → List (Rat) × Nat
  | 0, xs, a => (xs, a)
  | k + 1, xs, a => rat2sW l k (xs ++ [(rat2W l a).1]) (rat2W l a).2
theorem rat2sW_ok (l : List Int) (hl : l.length ≤ 400) (hx : I64 l) : ∀ (k : Nat) (xs : List (Rat)) (a : Nat), a ≤ l.length → (∀ x ∈ xs, okQ 10 x) → (rat2sW l k xs a).1.length = xs.length + k ∧ (rat2sW l k xs a).2 ≤ l.length ∧ ∀ x ∈ (rat2sW l k xs a).1, okQ 10 x
  | 0, xs, a, ha, h => ⟨rfl, ha, h⟩
  | k + 1, xs, a, ha, h => by
    obtain ⟨r1, r2, _⟩ := rat2W_spec l a hl hx ha
    unfold rat2sW
    have := rat2sW_ok l hl hx k (xs ++ [(rat2W l a).1]) (rat2W l a).2 r2 (by
      intro q hq
      rcases List.mem_append.1 hq with h' | h'
      · exact h q h'
      · rw [List.mem_singleton.1 h']; exact r1)
    simp only [List.length_append, List.length_singleton] at this
    exact ⟨by omega, this.2⟩
theorem world_Row (l : List Int) (a : Nat) (n : Nat) (hl : l.length ≤ 400) (hx : I64 l) (ha : a ≤ l.length) (h2 : n < 900) : ∃ (xs : List (Rat)) (b : Nat), xs.length = n ∧ (∀ x ∈ xs, okQ 10 x) ∧ b ≤ l.length ∧ RetB Tryz.prog 22 [.ptr 1000 0, .d (.int .i64 n)] (lookB [(1000, tp l a)]) (.d (qsD xs)) (lookB [(1000, tp l b)]) := by
  have hfin := rat2sW_ok l hl hx n [] a ha (by simp)
  refine ⟨(rat2sW l n [] a).1, (rat2sW l n [] a).2, by rw [hfin.1]; simp, hfin.2.2, hfin.2.1, ?_⟩
  obtain ⟨F, hF⟩ : ∃ F, rat2sW l n [] a = F := ⟨_, rfl⟩
  rw [hF]
  refine retB_of_awp tab [1000] Tryz.func22 rfl rfl rfl (Nat.le_of_ble_eq_true rfl) rfl ⟨Nat.le_refl _, trivial⟩ (fun w0 F0 A io0 => ?_)
  repeat' (first | refine stopA 3 tt ?_ | refine wG ?_ | refine wS ?_ ?_ <;> intro _ | refine wB ?_ ?_)
  refine stopOut ?_
  refine goA ?_
  refine awp_adopt 5 700 27 3 qC 0 rfl ?_
  refine awp_loop3 (fun (xs : List (Rat)) (b : Nat) (i : Nat) => ([(0, .ptr 1000 0), (1, .d (.int .i64 n)), (5, .own 700 0 xs.length 27 3), (6, .d (.int .i64 ((n : Int) - i)))], [(1000, tp l b), (700, .data 27 3 qC 0 xs)])) (fun xs b i => b ≤ l.length ∧ i ≤ n ∧ xs.length + i = n ∧ (∀ x ∈ xs, okQ 10 x) ∧ rat2sW l i xs b = F) (fun xs b i => i) [] a n ⟨ha, Nat.le_refl _, by simp, by simp, hF⟩ ⟨rfl, rfl, rfl, iv (by omega), rfl⟩ ⟨rfl, rfl, trivial⟩ (fun xs b i hi => ?_)
  obtain ⟨i1, i2, i3, i4, i5⟩ := hi
  by_cases hi0 : i = 0
  · subst hi0
    have e : F = (xs, b) := i5.symm
    subst e
    repeat' (first | refine stopA 6 tt ?_ | refine wG ?_ | refine wS ?_ ?_ <;> intro _ | refine wB ?_ ?_)
    refine stopOut ?_
    refine awp_frz 700 rfl ?_
    repeat' (first | refine wG ?_ | refine wS ?_ ?_ <;> intro _ | refine wB ?_ ?_)
    all_goals first | exact leVT | exact ⟨rfl, trivial⟩
  · obtain ⟨j, rfl⟩ : ∃ j, i = j + 1 := ⟨i - 1, by omega⟩
    obtain ⟨r1', r2', hR⟩ := rat2W_spec l b hl hx i1
    unfold rat2sW at i5
    generalize rat2W l b = x1 at *
    obtain ⟨q1, b1⟩ := x1
    simp only at r1' r2' hR i5
    have hk : ∀ q ∈ xs ++ [q1], okQ 10 q := by
      intro q hq
      rcases List.mem_append.1 hq with h | h
      · exact i4 q h
      · rw [List.mem_singleton.1 h]; exact r1'
    have keep := And.intro hk i5
    clear hk i5 i4 hfin hF
    repeat' (first | refine wG ?_ | refine wD [] hR ?_ | refine wS ?_ ?_ <;> intro _ | refine wB ?_ ?_)
    exact ⟨xs ++ [q1], b1, j, ⟨r2', by omega, by simp; omega, keep.1, keep.2⟩, by omega, ⟨rfl, rfl, ownEq (by simp), iv (by omega), rfl⟩, rfl, rfl, trivial⟩
end Go.Proofs.YtoppaphffnojdaaGreat

set_option maxHeartbeats 16000000
namespace Go.Proofs.YtoppaphffnojdaaGreat
open Go.Vw
attribute [local irreducible] awp awpL awpR

theorem leRsQs (l : List Rat) : LeD (qsD l) (rsD (l.map rq)) := LeD.sl (by simp) fun i a b ha hb => by
  rw [List.getElem?_map, ha] at hb
  have e : rq a = b := Option.some.inj hb
  subst e
  exact ⟨rfl, LeL.refl _⟩
end Go.Proofs.YtoppaphffnojdaaGreat

/-
  PlotScatters. Conditions: none beyond what lists can be.
-/
set_option maxHeartbeats 16000000
namespace Go.Proofs.YtoppaphffnojdaaGreat
open Go.Vw
attribute [local irreducible] awp awpL awpR

theorem scat_true (l : List Int) (rx ry : List R3) (width height : Int) (hl : l.length ≤ 9223372036854775807) (hx : I64 l) (hrl : rx.length ≤ 9223372036854775807) (hr : ∀ r ∈ rx, RawR r) (hyl : ry.length ≤ 9223372036854775807) (hy : ∀ r ∈ ry, RawR r) (c1 : -9223372036854775808 ≤ width) (c2 : width < 9223372036854775808) (c3 : -9223372036854775808 ≤ height) (c4 : height < 9223372036854775808) : Ret Tryz.prog 5 [i64s l, rsD rx, rsD ry, .int .i64 width, .int .i64 height] (· = .bool true) := by
  have aw := law40_awake
  have l1 := made_LightList rx 200 hr hrl (by decide)
  have l2 := made_LightList ry 200 hy hyl (by decide)
  cases hb1 : (decide (rx.length ≤ 200) && rx.all lightR)
  · rw [hb1] at l1
    clear l2
    refine ret_of_awp tab Tryz.func5 rfl rfl (Nat.le_of_ble_eq_true rfl) (fun w0 F0 => ?_)
    repeat' (first | refine wG ?_ | refine wC l1 ?_ | refine wC aw ?_ | refine wS ?_ ?_ <;> intro _ | refine finG ?_)
    all_goals rfl
  cases hb2 : (decide (ry.length ≤ 200) && ry.all lightR)
  · rw [hb1] at l1
    rw [hb2] at l2
    refine ret_of_awp tab Tryz.func5 rfl rfl (Nat.le_of_ble_eq_true rfl) (fun w0 F0 => ?_)
    repeat' (first | refine wG ?_ | refine wC l1 ?_ | refine wC l2 ?_ | refine wC aw ?_ | refine wS ?_ ?_ <;> intro _ | refine finG ?_)
    all_goals rfl
  have okx : ∀ r ∈ rx, RatOk r 9 := fun r h => (hr r h).light (by
    rw [Bool.and_eq_true] at hb1
    exact List.all_eq_true.1 hb1.2 r h)
  have oky : ∀ r ∈ ry, RatOk r 9 := fun r h => (hy r h).light (by
    rw [Bool.and_eq_true] at hb2
    exact List.all_eq_true.1 hb2.2 r h)
  rw [hb1] at l1
  rw [hb2] at l2
  clear hb1 hb2 hr hy
  by_cases h70 : 70 < rx.length
  · refine ret_of_awp tab Tryz.func5 rfl rfl (Nat.le_of_ble_eq_true rfl) (fun w0 F0 => ?_)
    repeat' (first | refine wG ?_ | refine wC l1 ?_ | refine wC l2 ?_ | refine wC aw ?_ | refine wS ?_ ?_ <;> intro _ | refine finG ?_)
    all_goals rfl
  by_cases h71 : 70 < ry.length
  · refine ret_of_awp tab Tryz.func5 rfl rfl (Nat.le_of_ble_eq_true rfl) (fun w0 F0 => ?_)
    repeat' (first | refine wG ?_ | refine wC l1 ?_ | refine wC l2 ?_ | refine wC aw ?_ | refine wS ?_ ?_ <;> intro _ | refine finG ?_)
    all_goals rfl
  obtain ⟨m, m1, m2, hN0⟩ := world_New l hl hx
  have hN : RetB Tryz.prog 10 [.d (i64s l)] (lookB []) (.ptr 1000 0) (lookB [(1000, tp m 0)]) := hN0.ren [(10, 1000)]
  clear hN0
  obtain ⟨vs, a1, v1, v2, v3, q1, hV⟩ := world_Values m 0 12 m1 m2 (by omega) (by decide) (by decide)
  obtain ⟨ys, a2, y1, y2, q2, hR⟩ := world_Row m a1 vs.length m1 m2 q1 (by omega)
  obtain ⟨r, a3, r1, r2, q3, hX⟩ := world_Next m a2 10 m1 m2 q2 (by decide) (by decide)
  obtain ⟨t2, e2, b2, p2, s2⟩ := scatters rx ry width height (by omega) (by omega) (fun r h => (okx r h).up (by decide)) (fun r h => (oky r h).up (by decide)) c1 c2 c3 c4
  refine ret_of_awp tab Tryz.func5 rfl rfl (Nat.le_of_ble_eq_true rfl) (fun w0 F0 => ?_)
  repeat' (first | refine stopA 8 tt ?_ | refine wG ?_ | refine wD [1000] hN ?_ | refine wD [] hV ?_ | refine wD [] hR ?_ | refine wC l1 ?_ | refine wC l2 ?_ | refine wS ?_ ?_ <;> intro _ | refine finG ?_)
  refine stopOut ?_
  refine awp_meetC (fun (x : List R3 × List R3 × Nat) => ([(1, .d (rsD rx)), (2, .d (rsD ry)), (3, .d (.int .i64 width)), (4, .d (.int .i64 height)), (11, .ptr 1000 0), (12, .d (rsD x.1)), (13, .d (rsD x.2.1))], [(1000, tp m x.2.2)])) (fun x => x.1.length ≤ 1000 ∧ x.2.1.length ≤ 1000 ∧ (∀ r ∈ x.1, RatOk r 100) ∧ (∀ r ∈ x.2.1, RatOk r 100) ∧ x.2.2 ≤ m.length) (fun x hI => ?_) ?_
  rotate_left
  · clear l1 l2 aw hN hV p2 s2 hR
    have okv : ∀ r ∈ vs.map rq, RatOk r 100 := fun r hr => by
      obtain ⟨q, hq, rfl⟩ := List.mem_map.1 hr
      exact (ok_rq (v3 q hq)).up (by decide)
    have okw : ∀ r ∈ ys.map rq, RatOk r 100 := fun r hr => by
      obtain ⟨q, hq, rfl⟩ := List.mem_map.1 hr
      exact (ok_rq (y2 q hq)).up (by decide)
    by_cases e8 : r = 8
    · subst e8
      obtain ⟨r', a4, r1', r2', q4, hX2⟩ := world_Next m a3 9 m1 m2 q3 (by decide) (by decide)
      obtain ⟨k, rfl⟩ : ∃ k : Nat, r' = k := ⟨r'.toNat, by omega⟩
      obtain ⟨zs, a5, z1, z2, q5, hR2⟩ := world_Row m a4 k m1 m2 q4 (by omega)
      repeat' (first | refine wG ?_ | refine wD [] hX ?_ | refine wD [] hX2 ?_ | refine wD [] hR2 ?_ | refine wS ?_ ?_ <;> intro _ | refine finG ?_)
      exact ⟨_, (Conv.cast 12 (rsD (vs.map rq)) rfl (leRsQs vs)).trans (Conv.cast 13 (rsD (zs.map rq)) rfl (leRsQs zs)), (vs.map rq, zs.map rq, a5), ⟨by simp only [List.length_map]; omega, by simp only [List.length_map]; omega, okv, fun r hr => by
        obtain ⟨q, hq, rfl⟩ := List.mem_map.1 hr
        exact (ok_rq (z2 q hq)).up (by decide), q5⟩, ⟨rfl, rfl, rfl, rfl, rfl, rfl, rfl, rfl⟩, rfl, trivial⟩
    by_cases e9 : r = 9
    · subst e9
      obtain ⟨xs, a4, x1, x2, q4, hO⟩ := world_OddRow m a3 ys.length m1 m2 q3 (by omega)
      repeat' (first | refine wG ?_ | refine wD [] hX ?_ | refine wD [] hO ?_ | refine wS ?_ ?_ <;> intro _ | refine finG ?_)
      exact ⟨_, Conv.cast 13 (rsD (ys.map rq)) rfl (leRsQs ys), (xs, ys.map rq, a4), ⟨by simp only; omega, by simp only [List.length_map]; omega, fun r hr => (x2 r hr).up (by decide), okw, q4⟩, ⟨rfl, rfl, rfl, rfl, rfl, rfl, rfl, rfl⟩, rfl, trivial⟩
    repeat' (first | refine wG ?_ | refine wD [] hX ?_ | refine wS ?_ ?_ <;> intro _ | refine finG ?_)
    exact ⟨_, (Conv.cast 12 (rsD (vs.map rq)) rfl (leRsQs vs)).trans (Conv.cast 13 (rsD (ys.map rq)) rfl (leRsQs ys)), (vs.map rq, ys.map rq, a3), ⟨by simp only [List.length_map]; omega, by simp only [List.length_map]; omega, okv, okw, q3⟩, ⟨rfl, rfl, rfl, rfl, rfl, rfl, rfl, rfl⟩, rfl, trivial⟩
  · obtain ⟨xs, zs, b0⟩ := x
    obtain ⟨i1, i2, i3, i4, i5⟩ := hI
    simp only at i1 i2 i3 i4 i5
    obtain ⟨n, b5, hn, k5, hP1⟩ := world_Pick m b0 [1, 5, 20, 100, 0, 101] m1 m2 i5 (by decide) (by decide)
    obtain ⟨w, b6, hw, k6, hP2⟩ := world_Pick m b5 [1, 3, 10, 0, 50, 51] m1 m2 k5 (by decide) (by decide)
    have hnb : 0 ≤ n ∧ n ≤ 101 := by
      simp only [List.mem_cons, List.not_mem_nil, or_false] at hn
      omega
    have hwb : 0 ≤ w ∧ w ≤ 51 := by
      simp only [List.mem_cons, List.not_mem_nil, or_false] at hw
      omega
    obtain ⟨t1, e1, bb1, p1, s1⟩ := scatters xs zs n w (by omega) (by omega) i3 i4 (by omega) (by omega) (by omega) (by omega)
    clear hn hw i3 i4 okx oky hX hV hR hN l1 l2
    repeat' (first | refine wG ?_ | refine wD [] hP1 ?_ | refine wD [] hP2 ?_ | refine wC p1 ?_ | refine wC s1 ?_ | refine wC p2 ?_ | refine wC s2 ?_ | refine wC aw ?_ | refine wS ?_ ?_ <;> intro _ | refine finG ?_)
    all_goals first | rfl | contradiction
end Go.Proofs.YtoppaphffnojdaaGreat
