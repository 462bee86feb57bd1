/-
  Contracts of functions of the program, and the layer that they are walked with: G12 G17 TmF G13 G14 G15 G15b G15d G15c G16 VPf G18 G08 G09 F10. Conditions: as each says.
-/
import Derived.Test.YtjooknpgcjicbaaA07
set_option linter.unnecessarySimpa false
/-
  The program's reader of right sides: the steps of a model. Conditions: as each says.
-/
set_option linter.unusedVariables false
set_option linter.unusedSimpArgs false
set_option maxHeartbeats 8000000
namespace Go.Proofs.Ytjooknpgcjicbaa
open Go.Vw
attribute [local irreducible] awp awpL awpR

abbrev MdC (e : List Nd) (al fs : List Fc) (l0 : List Nat) (T : Ft) (rest : List Nd) : Prop := OutM Try.prog 26 [601] [.ptr 17 0, .d (tsD l0), .d (ndsD (T.flat ++ rest))] (xB e fs) (exO e (addT fs T) rest (mdM al l0 T))
theorem flat_ne0 (T : Ft) : ∃ r, T.flat = (T.flat.headD nd0) :: r ∧ (T.flat.headD nd0).1 = T.op := by
  cases T with
  | leaf n => exact ⟨[], rfl, rfl⟩
  | un k a => exact ⟨a.flat, rfl, rfl⟩
  | bi op a b => exact ⟨a.flat ++ b.flat, rfl, rfl⟩
theorem md_one (e : List Nd) (al fs : List Fc) (l0 : List Nat) (T : Ft) (rest : List Nd) (hr : rest.length + T.flat.length ≤ 1000) (h5 : T.op ≠ 5) (h6 : T.op ≠ 6) (hx : ExC e al fs T rest) (hok : ∀ l, exM al T = some l → TmOk al.length l) (hal : al.length ≤ 64) (ol : l0.length ≤ 33) (ob : BdM 64 l0) : OutM Try.prog 26 [601] [.ptr 17 0, .d (tsD l0), .d (ndsD (T.flat ++ rest))] (xB e fs) (exO e (addT fs T) rest (stpM al (some l0) T true)) := by
  obtain ⟨r, hf, ho⟩ := flat_ne0 T
  generalize T.flat.headD nd0 = n at *
  unfold stpM
  unfold ExC at hx
  rw [hf] at hx hr ⊢
  obtain ⟨op, s, k⟩ := n
  have ho : op = T.op := ho
  subst ho
  have hl : ((T.op, s, k) :: (r ++ rest)).length = r.length + rest.length + 1 := by simp
  rw [show (T.op, s, k) :: r ++ rest = (T.op, s, k) :: (r ++ rest) from rfl] at hx ⊢
  rw [List.length_cons] at hr
  cases he : exM al T with
  | none =>
    rw [he] at hx
    have hx : PanB Try.prog 59 [.ptr 17 0, .d (ndsD ((T.op, s, k) :: (r ++ rest)))] (lookB (xB e fs)) limV := hx
    simp only
    generalize T.op = op at *
    generalize r ++ rest = r1 at *
    have g5 : ¬ (((op, s, k) :: r1).getD (nat_lit 0) nd0).1 = 5 := h5
    have g6 : ¬ (((op, s, k) :: r1).getD (nat_lit 0) nd0).1 = 6 := h6
    clear hok he hf
    refine outM_of_awp tab [17] [601] Try.func26 rfl rfl rfl (Nat.le_of_ble_eq_true rfl) (exO_cov e fs _ rest _) (exO_ln e fs _ rest _) (fun w0 F0 A io0 => ?_)
    repeat' (first | refine wX ?_ | refine wE ?_ | refine wG ?_ | refine wP hx ?_ | refine wR ?_ | refine wS ?_ ?_ <;> intro _ | exact wQ rfl | (refine wO ?_; refine wB ?_ ?_) | (refine wO ?_; refine wF ?_))
  | some m =>
    rw [he] at hx
    have hx : RetM Try.prog 59 [601] [.ptr 17 0, .d (ndsD ((T.op, s, k) :: (r ++ rest)))] (lookB (xB e fs)) (.tup [.d (tsD m), .d (ndsD rest)]) (lookB (xB e (addT fs T))) := hx
    simp only
    have o := hok m he
    have ap := terms_applyO l0 m (decide (T.op = 4)) true (by omega) (by have := fitsM_len o.fit; omega) ob (o.bd.mono hal)
    generalize T.op = op at *
    generalize addT fs T = fs' at *
    generalize r ++ rest = r1 at *
    have g5 : ¬ (((op, s, k) :: r1).getD (nat_lit 0) nd0).1 = 5 := h5
    have g6 : ¬ (((op, s, k) :: r1).getD (nat_lit 0) nd0).1 = 6 := h6
    clear hok he hf o
    cases hp : apM l0 m (decide (op = 4)) true with
    | none =>
      rw [hp] at ap
      have ap : PanB Try.prog 60 [.d (tsD l0), .d (tsD m), .d (.bool (decide (op = 4))), .d (.bool true)] (lookB []) limV := ap
      refine outM_of_awp tab [17] [601] Try.func26 rfl rfl rfl (Nat.le_of_ble_eq_true rfl) (exO_cov e fs fs' rest _) (exO_ln e fs fs' rest _) (fun w0 F0 A io0 => ?_)
      repeat' (first | refine wX ?_ | refine wE ?_ | refine wG ?_ | refine wP ap ?_ | refine wM [601] hx ?_ | refine wR ?_ | refine wS ?_ ?_ <;> intro _ | exact wQ rfl | (refine wO ?_; refine wB ?_ ?_) | (refine wO ?_; refine wF ?_))
    | some q =>
      rw [hp] at ap
      have ap := RetB.toRet (ds := [tsD l0, tsD m, .bool (decide (op = 4)), .bool true]) (y := .d (tsD q)) ap true rfl trivial
      refine outM_of_awp tab [17] [601] Try.func26 rfl rfl rfl (Nat.le_of_ble_eq_true rfl) (exO_cov e fs fs' rest _) (exO_ln e fs fs' rest _) (fun w0 F0 A io0 => ?_)
      repeat' (first | refine wX ?_ | refine wE ?_ | refine wG ?_ | refine wM [601] hx ?_ | refine wC ap ?_ | refine wR ?_ | refine wS ?_ ?_ <;> intro _ | exact wQ rfl | (refine wO ?_; refine wB ?_ ?_) | (refine wO ?_; refine wF ?_))
      all_goals first | exact leVT | exact ⟨rfl, rfl, trivial⟩
theorem mdM_ok {al : List Fc} (hal : al.length ≤ 64) {l m q : List Nat} {z add : Bool} (ol : l.length ≤ 33 ∧ BdM al.length l) (om : BdM al.length m) (h : apM l m z add = some q) : q.length ≤ 33 ∧ BdM al.length q := by
  have b0 : BdM al.length (if z then [0] else m) := by
    split
    · exact fun t ht => by simp at ht; subst ht; exact Nat.two_pow_pos _
    · exact om
  unfold apM at h
  generalize (if z = true then [0] else m) = m' at *
  by_cases h1 : (z != add) = true
  · rw [if_pos h1] at h
    by_cases hf : fitsM (plusM l m') = true
    · rw [if_pos hf] at h
      cases h
      exact ⟨by have := fitsM_len hf; omega, ol.2.plus b0⟩
    · rw [if_neg hf] at h
      cases h
  · rw [if_neg h1] at h
    cases h
    exact ⟨Nat.le_trans (minusM_le _ _) ol.1, ol.2.minus⟩
theorem md_two (e : List Nd) (al fs : List Fc) (l0 : List Nat) (op : Int) (a b : Ft) (rest : List Nd) (hr : rest.length + (Ft.bi op a b).flat.length ≤ 1000) (hop : op = 5 ∨ op = 6) (ha : MdC e al fs l0 a (b.flat ++ rest)) (hb : ExC e al (addT fs a) b rest) (hoka : ∀ l, mdM al l0 a = some l → l.length ≤ 33 ∧ BdM al.length l) (hokb : ∀ l, exM al b = some l → TmOk al.length l) (hal : al.length ≤ 64) : MdC e al fs l0 (.bi op a b) rest := by
  obtain ⟨r, hf, ho⟩ := flat_ne0 b
  generalize b.flat.headD nd0 = n at *
  have hfl : (Ft.bi op a b).flat.length = a.flat.length + b.flat.length + 1 := by simp [Ft.flat]
  unfold MdC
  rw [show (Ft.bi op a b).flat ++ rest = (op, [], 0) :: (a.flat ++ (b.flat ++ rest)) by simp [Ft.flat]]
  unfold MdC at ha
  unfold ExC at hb
  rw [show addT fs (.bi op a b) = addT (addT fs a) b from rfl]
  rw [show mdM al l0 (.bi op a b) = stpM al (mdM al l0 a) b (decide (op = 5)) by conv => lhs; unfold mdM; rw [if_pos hop]]
  obtain ⟨bop, s, k⟩ := n
  have ho : bop = b.op := ho
  subst ho
  rw [hf] at ha hb hfl ⊢
  rw [List.length_cons] at hfl
  have hl1 : (a.flat ++ ((b.op, s, k) :: r ++ rest)).length = a.flat.length + (r.length + 1 + rest.length) := by simp; omega
  have hl2 : ((b.op, s, k) :: r ++ rest).length = r.length + 1 + rest.length := by simp; omega
  rw [show (b.op, s, k) :: r ++ rest = (b.op, s, k) :: (r ++ rest) from rfl] at *
  have hl0 : ((op, ([] : List UInt8), (0 : Int)) :: (a.flat ++ ((b.op, s, k) :: (r ++ rest)))).length = a.flat.length + (r.length + 1 + rest.length) + 1 := by rw [List.length_cons, hl1]
  unfold stpM
  cases hx : mdM al l0 a with
  | none =>
    rw [hx] at ha
    have ha : PanB Try.prog 26 [.ptr 17 0, .d (tsD l0), .d (ndsD (a.flat ++ ((b.op, s, k) :: (r ++ rest))))] (lookB (xB e fs)) limV := ha
    simp only
    generalize a.flat ++ ((b.op, s, k) :: (r ++ rest)) = r1 at *
    clear hx hoka hokb hb hf
    rcases hop with rfl | rfl
    all_goals
      refine outM_of_awp tab [17] [601] Try.func26 rfl rfl rfl (Nat.le_of_ble_eq_true rfl) (exO_cov e fs _ rest _) (exO_ln e fs _ rest _) (fun w0 F0 A io0 => ?_)
      repeat' (first | refine wX ?_ | refine wE ?_ | refine wG ?_ | refine wP ha ?_ | refine wR ?_ | refine wS ?_ ?_ <;> intro _ | exact wQ rfl | (refine wO ?_; refine wB ?_ ?_) | (refine wO ?_; refine wF ?_))
  | some l =>
    rw [hx] at ha
    have ha : RetM Try.prog 26 [601] [.ptr 17 0, .d (tsD l0), .d (ndsD (a.flat ++ ((b.op, s, k) :: (r ++ rest))))] (lookB (xB e fs)) (.tup [.d (tsD l), .d (ndsD ((b.op, s, k) :: (r ++ rest)))]) (lookB (xB e (addT fs a))) := ha
    have ol := hoka l hx
    cases hy : exM al b with
    | none =>
      rw [hy] at hb
      have hb : PanB Try.prog 59 [.ptr 17 0, .d (ndsD ((b.op, s, k) :: (r ++ rest)))] (lookB (xB e (addT fs a))) limV := hb
      simp only
      generalize a.flat ++ ((b.op, s, k) :: (r ++ rest)) = r1 at *
      generalize addT fs a = fs1 at *
      generalize b.op = bop at *
      generalize r ++ rest = r2 at *
      clear hx hy hoka hokb hf ol
      rcases hop with rfl | rfl
      all_goals
        refine outM_of_awp tab [17] [601] Try.func26 rfl rfl rfl (Nat.le_of_ble_eq_true rfl) (exO_cov e fs _ rest _) (exO_ln e fs _ rest _) (fun w0 F0 A io0 => ?_)
        repeat' (first | refine wX ?_ | refine wE ?_ | refine wG ?_ | refine wP hb ?_ | refine wM [601] ha ?_ | refine wR ?_ | refine wS ?_ ?_ <;> intro _ | exact wQ rfl | (refine wO ?_; refine wB ?_ ?_) | (refine wO ?_; refine wF ?_))
    | some m =>
      rw [hy] at hb
      have hb : RetM Try.prog 59 [601] [.ptr 17 0, .d (ndsD ((b.op, s, k) :: (r ++ rest)))] (lookB (xB e (addT fs a))) (.tup [.d (tsD m), .d (ndsD rest)]) (lookB (xB e (addT (addT fs a) b))) := hb
      simp only
      have om := hokb m hy
      have ap := terms_applyO l m (decide (b.op = 4)) (decide (op = 5)) (by omega) (by have := fitsM_len om.fit; omega) (ol.2.mono hal) (om.bd.mono hal)
      generalize a.flat ++ ((b.op, s, k) :: (r ++ rest)) = r1 at *
      generalize addT (addT fs a) b = fs2 at *
      generalize addT fs a = fs1 at *
      generalize b.op = bop at *
      generalize r ++ rest = r2 at *
      clear hx hy hoka hokb hf ol om
      cases hp : apM l m (decide (bop = 4)) (decide (op = 5)) with
      | none =>
        rw [hp] at ap
        have ap : PanB Try.prog 60 [.d (tsD l), .d (tsD m), .d (.bool (decide (bop = 4))), .d (.bool (decide (op = 5)))] (lookB []) limV := ap
        clear hp
        rcases hop with rfl | rfl
        all_goals
          refine outM_of_awp tab [17] [601] Try.func26 rfl rfl rfl (Nat.le_of_ble_eq_true rfl) (exO_cov e fs fs2 rest _) (exO_ln e fs fs2 rest _) (fun w0 F0 A io0 => ?_)
          repeat' (first | refine wX ?_ | refine wE ?_ | refine wG ?_ | refine wP ap ?_ | refine wM [601] ha ?_ | refine wM [601] hb ?_ | refine wR ?_ | refine wS ?_ ?_ <;> intro _ | exact wQ rfl | (refine wO ?_; refine wB ?_ ?_) | (refine wO ?_; refine wF ?_))
      | some q =>
        rw [hp] at ap
        have ap := RetB.toRet (ds := [tsD l, tsD m, .bool (decide (bop = 4)), .bool (decide (op = 5))]) (y := .d (tsD q)) ap true rfl trivial
        clear hp
        rcases hop with rfl | rfl
        all_goals
          refine outM_of_awp tab [17] [601] Try.func26 rfl rfl rfl (Nat.le_of_ble_eq_true rfl) (exO_cov e fs fs2 rest _) (exO_ln e fs fs2 rest _) (fun w0 F0 A io0 => ?_)
          repeat' (first | refine wX ?_ | refine wE ?_ | refine wG ?_ | refine wM [601] ha ?_ | refine wM [601] hb ?_ | refine wC ap ?_ | refine wR ?_ | refine wS ?_ ?_ <;> intro _ | exact wQ rfl | (refine wO ?_; refine wB ?_ ?_) | (refine wO ?_; refine wF ?_))
          all_goals first | exact leVT | exact ⟨rfl, rfl, trivial⟩
theorem md_bd {al : List Fc} (hal : al.length ≤ 64) (l0 : List Nat) (h0 : l0.length ≤ 33 ∧ BdM al.length l0) : ∀ (T : Ft), T.ok → facsIn al T → ∀ l, mdM al l0 T = some l → l.length ≤ 33 ∧ BdM al.length l
  | .leaf n, hok, hf, l, h => by
    have h : stpM al (some l0) (.leaf n) true = some l := h
    unfold stpM at h
    split at h
    · rename_i l1 m e1 e2
      cases e1
      exact mdM_ok hal h0 (exM_ok hal (.leaf n) hok hf m e2).bd h
    · cases h
  | .un k a, hok, hf, l, h => by
    have h : stpM al (some l0) (.un k a) true = some l := h
    unfold stpM at h
    split at h
    · rename_i l1 m e1 e2
      cases e1
      exact mdM_ok hal h0 (exM_ok hal (.un k a) hok hf m e2).bd h
    · cases h
  | .bi op a b, hok, hf, l, h => by
    unfold mdM at h
    split at h
    · unfold stpM at h
      split at h
      · rename_i l1 m e1 e2
        exact mdM_ok hal (md_bd hal l0 h0 a hok.2.2.1 hf.1 l1 e1) (exM_ok hal b hok.2.2.2 hf.2 m e2).bd h
      · cases h
    · unfold stpM at h
      split at h
      · rename_i l1 m e1 e2
        cases e1
        exact mdM_ok hal h0 (exM_ok hal (.bi op a b) hok hf m e2).bd h
      · cases h
theorem terms_model (e : List Nd) (al : List Fc) (hal : al.length ≤ 64) (l0 : List Nat) (h0 : l0.length ≤ 33 ∧ BdM al.length l0) : ∀ (T : Ft), T.ok → ∀ (fs : List Fc) (rest : List Nd), rest.length + T.flat.length ≤ 1000 → addT fs T <+: al → MdC e al fs l0 T rest
  | .leaf n, hok, fs, rest, hr, hp => by
    refine md_one e al fs l0 (.leaf n) rest hr ?_ ?_ (terms_expression e al hal _ hok fs rest hr hp) (fun l h => exM_ok hal _ hok (facsIn_mono (fun f hf => hp.subset hf) _ (facsIn_addT _ fs)) l h) hal h0.1 (h0.2.mono hal)
    · show n.1 ≠ 5
      rcases hok with ⟨h, _⟩ | ⟨h, _⟩ | ⟨h | h, _⟩ <;> omega
    · show n.1 ≠ 6
      rcases hok with ⟨h, _⟩ | ⟨h, _⟩ | ⟨h | h, _⟩ <;> omega
  | .un k a, hok, fs, rest, hr, hp => by
    exact md_one e al fs l0 (.un k a) rest hr (by show (10 : Int) ≠ 5; decide) (by show (10 : Int) ≠ 6; decide) (terms_expression e al hal _ hok fs rest hr hp) (fun l h => exM_ok hal _ hok (facsIn_mono (fun f hf => hp.subset hf) _ (facsIn_addT _ fs)) l h) hal h0.1 (h0.2.mono hal)
  | .bi op a b, hok, fs, rest, hr, hp => by
    have hfl : (Ft.bi op a b).flat.length = a.flat.length + b.flat.length + 1 := by simp [Ft.flat]
    by_cases hop : op = 5 ∨ op = 6
    · have pa : addT fs a <+: al := (addT_pre b _).trans hp
      exact md_two e al fs l0 op a b rest hr hop (terms_model e al hal l0 h0 a hok.2.2.1 fs (b.flat ++ rest) (by simp; omega) pa) (terms_expression e al hal b hok.2.2.2 _ rest (by omega) hp) (fun l h => md_bd hal l0 h0 a hok.2.2.1 (facsIn_mono (fun f hf => pa.subset hf) a (facsIn_addT a fs)) l h) (fun l h => exM_ok hal b hok.2.2.2 (facsIn_mono (fun f hf => hp.subset hf) b (facsIn_addT b _)) l h) hal
    · unfold MdC
      rw [show mdM al l0 (.bi op a b) = stpM al (some l0) (.bi op a b) true by conv => lhs; unfold mdM; rw [if_neg hop]]
      exact md_one e al fs l0 (.bi op a b) rest hr (fun h => hop (.inl h)) (fun h => hop (.inr h)) (terms_expression e al hal _ hok fs rest hr hp) (fun l h => exM_ok hal _ hok (facsIn_mono (fun f hf => hp.subset hf) _ (facsIn_addT _ fs)) l h) hal h0.1 (h0.2.mono hal)
end Go.Proofs.Ytjooknpgcjicbaa

/-
  The factors of a term, as the program lists them. Conditions: as each says.
-/
set_option maxHeartbeats 8000000
namespace Go.Proofs.Ytjooknpgcjicbaa
open Go.Vw
attribute [local irreducible] awp awpL awpR

abbrev fO (n : Nat) : V := .own 500 0 n fcT 2
abbrev fB (l : List Fc) : Blk := .data fcT 2 fcC fc0 l
theorem fOEq {n m : Nat} (h : n = m) : fO n = fO m := by rw [h]
theorem fBEq {l m : List Fc} (h : l = m) : some (fB l) = some (fB m) := by rw [h]
theorem bit_one {t i : Nat} : ((((t : Int) / 2 ^ ((i : Int)).toNat).toNat &&& Int.toNat 1 : Nat) : Int) = 1 ↔ t.testBit i = true := by
  rw [Int.toNat_natCast, show ((t : Int) / 2 ^ i).toNat = t / 2 ^ i by
    rw [show ((2 : Int) ^ i) = ((2 ^ i : Nat) : Int) by rw [Int.natCast_pow]; rfl]
    exact congrArg Int.toNat (Int.natCast_ediv t (2 ^ i)).symm, show Int.toNat 1 = 2 ^ 1 - 1 from rfl, Nat.and_two_pow_sub_one_eq_mod, Nat.testBit_eq_decide_div_mod_eq, decide_eq_true_eq]
  omega
theorem shr_nat {t i : Nat} : (t : Int) / 2 ^ ((i : Int)).toNat = ((t / 2 ^ i : Nat) : Int) := by
  rw [Int.toNat_natCast, show ((2 : Int) ^ i) = ((2 ^ i : Nat) : Int) by rw [Int.natCast_pow]; rfl]
  exact (Int.natCast_ediv t (2 ^ i)).symm
theorem shr_lim {t i : Nat} (ht : t < 2 ^ 64) : 0 ≤ (t : Int) / 2 ^ ((i : Int)).toNat ∧ (t : Int) / 2 ^ ((i : Int)).toNat < 18446744073709551616 := by
  rw [shr_nat]
  have := Nat.div_le_self t (2 ^ i)
  generalize t / 2 ^ i = q at *
  omega
theorem terms_list (e : List Nd) (fs : List Fc) (t : Nat) (hl : fs.length ≤ 64) (ht : t < 2 ^ 64) : Ret Try.prog 33 [.ptr [ndsD e, fsD fs] 0, tD t] (· = fsD (facM fs t)) := by
  have st := facP_step fs t
  have pl := facP_len fs t
  rw [← facP_all fs t]
  have p0 := facP_zero fs t
  generalize facP fs t = G at *
  refine ret_of_awp tab Try.func33 rfl rfl (Nat.le_of_ble_eq_true rfl) (fun w0 F0 => ?_)
  repeat' (first | refine wG ?_ | refine wR ?_ | refine wS ?_ ?_ <;> intro _ | refine finG ?_)
  refine awp_adopt 5 500 fcT 2 fcC fc0 rfl ?_
  refine awp_loop1 (fun (i : Nat) => ([(1, .d (tD t)), (5, fO (G i).length), (11, .d (fsD fs)), (12, .d (.int .i64 fs.length)), (13, .d (.int .i64 i))], [(500, fB (G i))])) (fun i => i ≤ fs.length) (fun i => fs.length - i) 0 (by omega) ⟨rfl, fOEq (by rw [p0]; rfl), rfl, rfl, rfl, rfl⟩ ⟨fBEq p0.symm, trivial⟩ (fun i hi => ?_)
  have li := pl i
  by_cases h3 : i < fs.length
  · have si := st i
    have b1 := bit_one (t := t) (i := i)
    obtain ⟨z1, z2⟩ := shr_lim (i := i) ht
    cases hb : t.testBit i with
    | true =>
      rw [hb] at si b1
      rw [if_pos rfl] at si
      have b2 := b1.2 rfl
      clear st pl b1
      repeat' (first | refine wG ?_ | refine wR ?_ | refine wS ?_ ?_ <;> intro _ | refine finG ?_)
      exact ⟨i + 1, by omega, by omega, ⟨rfl, fOEq (by rw [si]), rfl, rfl, iv (by omega), rfl⟩, fBEq si.symm, trivial⟩
    | false =>
      rw [hb] at si b1
      rw [if_neg (by decide), List.append_nil] at si
      have b2 : ¬ ((((t : Int) / 2 ^ ((i : Int)).toNat).toNat &&& Int.toNat 1 : Nat) : Int) = 1 := fun h => absurd (b1.1 h) (by decide)
      clear st pl b1
      repeat' (first | refine wG ?_ | refine wR ?_ | refine wS ?_ ?_ <;> intro _ | refine finG ?_)
      exact ⟨i + 1, by omega, by omega, ⟨rfl, fOEq (by rw [si]), rfl, rfl, iv (by omega), rfl⟩, fBEq si.symm, trivial⟩
  · have e : i = fs.length := by omega
    subst e
    clear st pl
    repeat' (first | refine wG ?_ | refine wR ?_ | refine wS ?_ ?_ <;> intro _ | refine finG ?_)
    rfl
end Go.Proofs.Ytjooknpgcjicbaa

/-
  Sorting by the number of factors: insertion, rotation, merging in place. Conditions: as each says.
-/
namespace Go.Vw
def AscM (l : List Nat) : Prop := l.Pairwise fun x y => popc x ≤ popc y
def swpM (L : List Nat) (i j : Nat) : List Nat := (L.set i (L.getD j 0)).set j (L.getD i 0)
theorem swpM_comm (L : List Nat) {i j : Nat} (h : i ≠ j) : (L.set j (L.getD i 0)).set i (L.getD j 0) = swpM L i j := by
  unfold swpM
  rw [List.set_comm _ _ h]
theorem swpM_at (P M Q : List Nat) (u v : Nat) : swpM (P ++ u :: (M ++ v :: Q)) P.length (P.length + 1 + M.length) = P ++ v :: (M ++ u :: Q) := by
  have e1 : (P ++ u :: (M ++ v :: Q)).getD P.length 0 = u := by
    rw [List.getD_eq_getElem?_getD, List.getElem?_append_right (Nat.le_refl _)]; simp
  have e2 : (P ++ u :: (M ++ v :: Q)).getD (P.length + 1 + M.length) 0 = v := by
    rw [List.getD_eq_getElem?_getD, List.getElem?_append_right (by omega), show P.length + 1 + M.length - P.length = M.length + 1 by omega, List.getElem?_cons_succ, List.getElem?_append_right (Nat.le_refl _)]; simp
  unfold swpM
  rw [e1, e2, List.set_append_right _ _ (Nat.le_refl _), Nat.sub_self, List.set_cons_zero, List.set_append_right _ _ (by omega), show P.length + 1 + M.length - P.length = M.length + 1 by omega, List.set_cons_succ, List.set_append_right _ _ (Nat.le_refl _), Nat.sub_self, List.set_cons_zero]
theorem getD_at (P Q : List Nat) (u : Nat) {i : Nat} (h : i = P.length) : (P ++ u :: Q).getD i 0 = u := by
  subst h
  rw [List.getD_eq_getElem?_getD, List.getElem?_append_right (Nat.le_refl _)]; simp
theorem drop_get {l : List Nat} {i : Nat} (h : i < l.length) : ∃ u, l.drop i = u :: l.drop (i + 1) ∧ l.take (i + 1) = l.take i ++ [u] :=
  ⟨l[i], List.drop_eq_getElem_cons h, by rw [List.take_add_one, List.getElem?_eq_getElem h]; rfl⟩
theorem swap_family (P U M V Q : List Nat) (h : U.length = V.length) : ∃ W : Nat → List Nat, W 0 = P ++ (U ++ (M ++ (V ++ Q))) ∧ W U.length = P ++ (V ++ (M ++ (U ++ Q))) ∧ (∀ i, i ≤ U.length → (W i).length = (P ++ (U ++ (M ++ (V ++ Q)))).length) ∧ ∀ i, i < U.length → swpM (W i) (P.length + i) (P.length + U.length + M.length + i) = W (i + 1) := by
  refine ⟨fun i => P ++ (V.take i ++ (U.drop i ++ (M ++ (U.take i ++ (V.drop i ++ Q))))), by simp, ?_, fun i hi => ?_, fun i hi => ?_⟩
  · show P ++ (V.take U.length ++ (U.drop U.length ++ (M ++ (U.take U.length ++ (V.drop U.length ++ Q))))) = _
    rw [List.take_of_length_le (show V.length ≤ U.length by omega), List.drop_eq_nil_of_le (Nat.le_refl _), List.take_of_length_le (Nat.le_refl _), List.drop_eq_nil_of_le (show V.length ≤ U.length by omega)]; simp
  · simp only [List.length_append, List.length_take, List.length_drop]; omega
  · obtain ⟨u, hu, tu⟩ := drop_get hi
    obtain ⟨v, hv, tv⟩ := drop_get (show i < V.length by omega)
    have := swpM_at (P ++ V.take i) (U.drop (i + 1) ++ (M ++ U.take i)) (V.drop (i + 1) ++ Q) u v
    rw [show (P ++ V.take i).length = P.length + i by rw [List.length_append, List.length_take]; omega] at this
    rw [show P.length + i + 1 + (U.drop (i + 1) ++ (M ++ U.take i)).length = P.length + U.length + M.length + i by simp only [List.length_append, List.length_take, List.length_drop]; omega] at this
    show swpM (P ++ (V.take i ++ (U.drop i ++ (M ++ (U.take i ++ (V.drop i ++ Q)))))) _ _ = P ++ (V.take (i + 1) ++ (U.drop (i + 1) ++ (M ++ (U.take (i + 1) ++ (V.drop (i + 1) ++ Q)))))
    rw [hu, hv, tu, tv]
    simpa [List.append_assoc] using this
/-! ## insertion -/
def insM (x : Nat) (S : List Nat) : List Nat := S.filter (fun y => decide (popc y ≤ popc x)) ++ x :: S.filter (fun y => !decide (popc y ≤ popc x))
def isortM (l : List Nat) : List Nat := l.foldl (fun S x => insM x S) []
theorem isortM_snoc (l : List Nat) (x : Nat) : isortM (l ++ [x]) = insM x (isortM l) := by unfold isortM; rw [List.foldl_append]; rfl
theorem asc_split {S : List Nat} (h : AscM S) (x : Nat) : S = S.filter (fun y => decide (popc y ≤ popc x)) ++ S.filter (fun y => !decide (popc y ≤ popc x)) := by
  induction S with
  | nil => rfl
  | cons a S ih =>
    have hp := List.pairwise_cons.1 h
    have ih := ih hp.2
    by_cases q : popc a ≤ popc x
    · rw [List.filter_cons_of_pos (by simpa using q), List.filter_cons_of_neg (by simpa using q), List.cons_append, ← ih]
    · have h0 : S.filter (fun y => decide (popc y ≤ popc x)) = [] := by
        rw [List.filter_eq_nil_iff]
        intro y hy
        have := hp.1 y hy
        simp; omega
      rw [h0, List.nil_append] at ih
      rw [List.filter_cons_of_neg (by simpa using q), List.filter_cons_of_pos (by simpa using q), h0, List.nil_append, ← ih]
theorem insM_perm (x : Nat) (S : List Nat) : (insM x S).Perm (x :: S) := by
  unfold insM
  refine List.perm_middle.trans (List.Perm.cons x ?_)
  have := List.filter_append_perm (fun y => decide (popc y ≤ popc x)) S
  simpa using this
theorem insM_asc {x : Nat} {S : List Nat} (h : AscM S) : AscM (insM x S) := by
  unfold insM AscM
  rw [List.pairwise_append]
  refine ⟨h.filter _, ?_, fun a ha b hb => ?_⟩
  · rw [List.pairwise_cons]
    refine ⟨fun b hb => ?_, h.filter _⟩
    have := (List.mem_filter.1 hb).2
    simp at this; omega
  · have h1 := (List.mem_filter.1 ha).2
    simp at h1
    rcases List.mem_cons.1 hb with rfl | hb
    · exact h1
    · have h2 := (List.mem_filter.1 hb).2
      simp at h2; omega
theorem isortM_spec : ∀ (l : List Nat), (isortM l).Perm l ∧ AscM (isortM l) := by
  have : ∀ (l S : List Nat), AscM S → (l.foldl (fun S x => insM x S) S).Perm (l ++ S) ∧ AscM (l.foldl (fun S x => insM x S) S) := by
    intro l
    induction l with
    | nil => exact fun S h => ⟨List.Perm.refl _, h⟩
    | cons x l ih =>
      intro S h
      obtain ⟨h1, h2⟩ := ih (insM x S) (insM_asc h)
      refine ⟨h1.trans ?_, h2⟩
      exact ((insM_perm x S).append_left l).trans List.perm_middle
  intro l
  have := this l [] List.Pairwise.nil
  rw [List.append_nil] at this
  exact this
theorem isortM_len (l : List Nat) : (isortM l).length = l.length := (isortM_spec l).1.length_eq
theorem ins_family (P T R : List Nat) (x : Nat) (hT : AscM T) : ∃ (c k : Nat) (W : Nat → List Nat), c + k = P.length + T.length ∧ P.length ≤ c ∧ W k = P ++ (T ++ (x :: R)) ∧ W 0 = P ++ (insM x T ++ R) ∧ (∀ q, q ≤ k → (W q).length = (P ++ (T ++ (x :: R))).length) ∧ (∀ q, q < k → swpM (W (q + 1)) (c + q) (c + q + 1) = W q) ∧ (∀ q, q ≤ k → (W q).getD (c + q) 0 = x) ∧ (∀ q, q < k → popc x < popc ((W (q + 1)).getD (c + q) 0)) ∧ (P.length < c → ¬ popc x < popc ((W 0).getD (c - 1) 0)) ∧ ∀ q, ∀ t ∈ W q, t ∈ P ++ (T ++ (x :: R)) := by
  have sp := asc_split hT x
  obtain ⟨T1, h1⟩ : ∃ T1, T.filter (fun y => decide (popc y ≤ popc x)) = T1 := ⟨_, rfl⟩
  obtain ⟨T2, h2⟩ : ∃ T2, T.filter (fun y => !decide (popc y ≤ popc x)) = T2 := ⟨_, rfl⟩
  have g1 : ∀ y ∈ T1, popc y ≤ popc x := fun y hy => by rw [← h1] at hy; simpa using (List.mem_filter.1 hy).2
  have g2 : ∀ y ∈ T2, popc x < popc y := fun y hy => by rw [← h2] at hy; simpa using (List.mem_filter.1 hy).2
  rw [h1, h2] at sp
  have ei : insM x T = T1 ++ x :: T2 := by unfold insM; rw [h1, h2]
  refine ⟨P.length + T1.length, T2.length, fun q => P ++ (T1 ++ (T2.take q ++ (x :: (T2.drop q ++ R)))), by rw [sp, List.length_append]; omega, by omega, ?_, ?_, fun q hq => ?_, fun q hq => ?_, fun q hq => ?_, fun q hq => ?_, fun h => ?_, fun q t ht => ?_⟩
  · show P ++ (T1 ++ (T2.take T2.length ++ (x :: (T2.drop T2.length ++ R)))) = _
    rw [List.take_of_length_le (Nat.le_refl _), List.drop_eq_nil_of_le (Nat.le_refl _), sp]; simp
  · show P ++ (T1 ++ (T2.take 0 ++ (x :: (T2.drop 0 ++ R)))) = _
    rw [ei]; simp
  · rw [sp]; simp only [List.length_append, List.length_take, List.length_drop, List.length_cons]; omega
  · obtain ⟨u, hu, tu⟩ := drop_get hq
    have := swpM_at (P ++ (T1 ++ T2.take q)) [] (T2.drop (q + 1) ++ R) u x
    rw [show (P ++ (T1 ++ T2.take q)).length = P.length + T1.length + q by simp only [List.length_append, List.length_take]; omega] at this
    show swpM (P ++ (T1 ++ (T2.take (q + 1) ++ (x :: (T2.drop (q + 1) ++ R))))) _ _ = P ++ (T1 ++ (T2.take q ++ (x :: (T2.drop q ++ R))))
    rw [tu, hu]
    simpa [List.append_assoc] using this
  · have := getD_at (P ++ (T1 ++ T2.take q)) (T2.drop q ++ R) x (i := P.length + T1.length + q) (by simp only [List.length_append, List.length_take]; omega)
    simpa [List.append_assoc] using this
  · obtain ⟨u, hu, tu⟩ := drop_get hq
    have hm : u ∈ T2 := List.mem_of_mem_drop (by rw [hu]; exact List.mem_cons_self)
    have := getD_at (P ++ (T1 ++ T2.take q)) (x :: (T2.drop (q + 1) ++ R)) u (i := P.length + T1.length + q) (by simp only [List.length_append, List.length_take]; omega)
    have e : (P ++ (T1 ++ (T2.take (q + 1) ++ (x :: (T2.drop (q + 1) ++ R))))).getD (P.length + T1.length + q) 0 = u := by
      rw [tu]; simpa [List.append_assoc] using this
    show popc x < popc ((P ++ (T1 ++ (T2.take (q + 1) ++ (x :: (T2.drop (q + 1) ++ R))))).getD (P.length + T1.length + q) 0)
    rw [e]; exact g2 u hm
  · have hp : 0 < T1.length := by omega
    obtain ⟨u, hu, tu⟩ := drop_get (l := T1) (i := T1.length - 1) (by omega)
    have hm : u ∈ T1 := List.mem_of_mem_drop (by rw [hu]; exact List.mem_cons_self)
    have e1 : T1 = T1.take (T1.length - 1) ++ [u] := by
      rw [← tu, show T1.length - 1 + 1 = T1.length by omega, List.take_of_length_le (Nat.le_refl _)]
    have := getD_at (P ++ T1.take (T1.length - 1)) (x :: (T2 ++ R)) u (i := P.length + T1.length - 1) (by simp only [List.length_append, List.length_take]; omega)
    have e : (P ++ (T1 ++ (T2.take 0 ++ (x :: (T2.drop 0 ++ R))))).getD (P.length + T1.length - 1) 0 = u := by
      rw [List.take_zero, List.drop_zero, List.nil_append]
      conv => lhs; rw [e1]
      simp [List.append_assoc]
    show ¬ popc x < popc ((P ++ (T1 ++ (T2.take 0 ++ (x :: (T2.drop 0 ++ R))))).getD (P.length + T1.length - 1) 0)
    rw [e]
    have := g1 u hm
    omega
  · have ht : t ∈ P ++ (T1 ++ (T2.take q ++ (x :: (T2.drop q ++ R)))) := ht
    have e := List.take_append_drop q T2
    rw [sp]
    simp only [List.mem_append, List.mem_cons] at ht ⊢
    rcases ht with h | h | h | h | h | h
    · exact .inl h
    · exact .inr (.inl (.inl h))
    · exact .inr (.inl (.inr (List.mem_of_mem_take h)))
    · exact .inr (.inr (.inl h))
    · exact .inr (.inl (.inr (List.mem_of_mem_drop h)))
    · exact .inr (.inr (.inr h))
/-! ## a boundary -/
theorem bound_ex (P : Nat → Prop) [DecidablePred P] (i : Nat) : ∀ (k : Nat), (∀ c c', i ≤ c → c < c' → c' < i + k → ¬ P c → ¬ P c') → ∃ r, i ≤ r ∧ r ≤ i + k ∧ (∀ c, i ≤ c → c < r → P c) ∧ ∀ c, r ≤ c → c < i + k → ¬ P c
  | 0, _ => ⟨i, Nat.le_refl _, by omega, fun c h1 h2 => by omega, fun c h1 h2 => by omega⟩
  | k + 1, hm => by
    obtain ⟨r, h1, h2, h3, h4⟩ := bound_ex P i k fun c c' a b d => hm c c' a b (by omega)
    by_cases e : r = i + k
    · by_cases q : P (i + k)
      · refine ⟨i + k + 1, by omega, by omega, fun c a b => ?_, fun c a b => by omega⟩
        by_cases e2 : c = i + k
        · rw [e2]; exact q
        · exact h3 c a (by omega)
      · refine ⟨r, h1, by omega, h3, fun c a b => ?_⟩
        have : c = i + k := by omega
        rw [this]; exact q
    · refine ⟨r, h1, by omega, h3, fun c a b => ?_⟩
      by_cases e2 : c = i + k
      · have := h4 r (Nat.le_refl _) (by omega)
        rw [e2]
        exact hm r (i + k) h1 (by omega) (by omega) this
      · exact h4 c a (by omega)
/-! ## merging -/
theorem asc_get {l : List Nat} (h : AscM l) {i j : Nat} (hij : i ≤ j) (hj : j < l.length) : popc (l.getD i 0) ≤ popc (l.getD j 0) := by
  rcases Nat.eq_or_lt_of_le hij with e | e
  · rw [e]; exact Nat.le_refl _
  · have := List.pairwise_iff_getElem.1 h i j (by omega) hj e
    rw [List.getD_eq_getElem?_getD, List.getElem?_eq_getElem (by omega), List.getD_eq_getElem?_getD, List.getElem?_eq_getElem hj]
    exact this
theorem mem_getD {l : List Nat} {x : Nat} (h : x ∈ l) : ∃ i, i < l.length ∧ l.getD i 0 = x := by
  obtain ⟨i, hi, e⟩ := List.getElem_of_mem h
  exact ⟨i, hi, by rw [List.getD_eq_getElem?_getD, List.getElem?_eq_getElem hi]; exact e⟩
theorem getD_takeL {l : List Nat} {i k : Nat} (h : i < k) : (l.take k).getD i 0 = l.getD i 0 := by
  rw [List.getD_eq_getElem?_getD, List.getElem?_take, if_pos h, ← List.getD_eq_getElem?_getD]
theorem getD_dropL {l : List Nat} {i k : Nat} : (l.drop k).getD i 0 = l.getD (k + i) 0 := by
  rw [List.getD_eq_getElem?_getD, List.getElem?_drop, ← List.getD_eq_getElem?_getD]
theorem merge_cut {A B : List Nat} (hA : AscM A) (hB : AscM B) {s t : Nat} (hs : s ≤ A.length) (ht : t ≤ B.length) (h1 : s = 0 ∨ t = B.length ∨ popc (A.getD (s - 1) 0) ≤ popc (B.getD t 0)) (h2 : t = 0 ∨ s = A.length ∨ popc (B.getD (t - 1) 0) ≤ popc (A.getD s 0)) : ∀ x ∈ A.take s ++ B.take t, ∀ y ∈ A.drop s ++ B.drop t, popc x ≤ popc y := by
  intro x hx y hy
  rw [List.mem_append] at hx hy
  rcases hx with hx | hx <;> obtain ⟨i, hi, ex⟩ := mem_getD hx <;> rw [List.length_take] at hi <;> rw [getD_takeL (by omega)] at ex <;>
    rcases hy with hy | hy <;> obtain ⟨j, hj, ey⟩ := mem_getD hy <;> rw [List.length_drop] at hj <;> rw [getD_dropL] at ey <;> rw [← ex, ← ey]
  · exact asc_get hA (by omega) (by omega)
  · have a1 := asc_get hA (show i ≤ s - 1 by omega) (by omega)
    have a2 := asc_get hB (show t ≤ t + j by omega) (by omega)
    rcases h1 with h | h | h <;> omega
  · have a1 := asc_get hB (show i ≤ t - 1 by omega) (by omega)
    have a2 := asc_get hA (show s ≤ s + j by omega) (by omega)
    rcases h2 with h | h | h <;> omega
  · exact asc_get hB (by omega) (by omega)
theorem asc_app {C D : List Nat} (hC : AscM C) (hD : AscM D) (h : ∀ x ∈ C, ∀ y ∈ D, popc x ≤ popc y) : AscM (C ++ D) := List.pairwise_append.2 ⟨hC, hD, h⟩
theorem asc_take {A : List Nat} (h : AscM A) (s : Nat) : AscM (A.take s) := h.sublist (List.take_sublist _ _)
theorem asc_drop {A : List Nat} (h : AscM A) (s : Nat) : AscM (A.drop s) := h.sublist (List.drop_sublist _ _)
def shW (P V Q : List Nat) (x q : Nat) : List Nat := P ++ (V.take q ++ (x :: (V.drop q ++ Q)))
theorem shW_len (P V Q : List Nat) (x q : Nat) : (shW P V Q x q).length = P.length + V.length + 1 + Q.length := by
  unfold shW; simp only [List.length_append, List.length_take, List.length_drop, List.length_cons]; omega
theorem shW_step (P V Q : List Nat) (x : Nat) {q : Nat} (hq : q < V.length) : swpM (shW P V Q x q) (P.length + q) (P.length + q + 1) = shW P V Q x (q + 1) := by
  obtain ⟨u, hu, tu⟩ := drop_get hq
  have := swpM_at (P ++ V.take q) [] (V.drop (q + 1) ++ Q) x u
  rw [show (P ++ V.take q).length = P.length + q by simp only [List.length_append, List.length_take]; omega] at this
  unfold shW
  rw [tu, hu]
  simpa [List.append_assoc] using this
theorem shW_back (P V Q : List Nat) (x : Nat) {q : Nat} (hq : q < V.length) : swpM (shW P V Q x (q + 1)) (P.length + q) (P.length + q + 1) = shW P V Q x q := by
  obtain ⟨u, hu, tu⟩ := drop_get hq
  have := swpM_at (P ++ V.take q) [] (V.drop (q + 1) ++ Q) u x
  rw [show (P ++ V.take q).length = P.length + q by simp only [List.length_append, List.length_take]; omega] at this
  unfold shW
  rw [tu, hu]
  simpa [List.append_assoc] using this
theorem get_mid (P V Q : List Nat) {c i : Nat} (h : i = P.length + c) (hc : c < V.length) : (P ++ (V ++ Q)).getD i 0 = V.getD c 0 := by
  subst h
  rw [List.getD_eq_getElem?_getD, List.getElem?_append_right (by omega), Nat.add_sub_cancel_left, List.getElem?_append_left hc, ← List.getD_eq_getElem?_getD]
theorem bdM_perm {n : Nat} {l m : List Nat} (h : l.Perm m) (hb : BdM n m) : BdM n l := fun t ht => hb t (h.mem_iff.1 ht)
end Go.Vw

/-
  The library's stable sort, of terms by the number of factors: swaps, rotations, insertions. Conditions: as each says.
-/
set_option maxHeartbeats 8000000
namespace Go.Proofs.Ytjooknpgcjicbaa
open Go.Vw
attribute [local irreducible] awp awpL awpR

abbrev cmF : D := .fn 30 []
abbrev sO (n : Nat) : V := .own 500 0 n tT 1
abbrev sB (l : List Nat) : List (Nat × Blk) := [(500, .data tT 1 (eN .u64) 0 l)]
theorem sBEq {l m : List Nat} (h : l = m) : some (Blk.data tT 1 (eN .u64) 0 l) = some (Blk.data tT 1 (eN .u64) 0 m) := by rw [h]
theorem slices_swap (n : Nat) (P U M V Q : List Nat) (hUV : U.length = V.length) (hn : P.length + U.length + M.length + V.length ≤ n) (hl : n ≤ (P ++ (U ++ (M ++ (V ++ Q)))).length) (hb : n ≤ 1000000) : RetB Try.prog 106 [sO n, .d (.int .i64 P.length), .d (.int .i64 (P.length + U.length + M.length : Nat)), .d (.int .i64 U.length), .d cmF] (lookB (sB (P ++ (U ++ (M ++ (V ++ Q)))))) (.tup []) (lookB (sB (P ++ (V ++ (M ++ (U ++ Q)))))) := by
  obtain ⟨W, w0, wE, wL, wS⟩ := swap_family P U M V Q hUV
  rw [← w0] at hl wL ⊢
  rw [← wE]
  rw [← hUV] at hn
  clear w0 wE hUV
  generalize P.length = p at *
  generalize M.length = q at *
  generalize U.length = k at *
  refine retB_of_awp tab [500] Try.func106 rfl rfl rfl (Nat.le_of_ble_eq_true rfl) rfl ⟨by show (W 0).length ≤ (W k).length; rw [wL _ (Nat.le_refl _)]; exact Nat.le_refl _, trivial⟩ (fun w0 F0 A io0 => ?_)
  repeat' (first | refine wG ?_ | refine rg 3 22 ?_ | refine wR ?_ | refine wS ?_ ?_ <;> intro _ | refine wB ?_ ?_ | refine wF ?_)
  refine awp_loop1 (fun (i : Nat) => ([(0, sO n), (1, .d (.int .i64 p)), (2, .d (.int .i64 (p + k + q : Nat))), (3, .d (.int .i64 k)), (10, .d (.int .i64 i))], sB (W i))) (fun i => i ≤ k) (fun i => k - i) 0 (by omega) ⟨rfl, rfl, rfl, rfl, rfl, rfl⟩ ⟨rfl, trivial⟩ (fun i hi => ?_)
  have wl := wL i hi
  by_cases h3 : i < k
  · have st := wS i h3
    have g1 : ((p : Int) + i).toNat = p + i := by omega
    have g2 : (((p + k + q : Nat) : Int) + i).toNat = p + k + q + i := by omega
    clear wS wL
    repeat' (first | refine wG ?_ | refine rg 3 22 ?_ | refine wR ?_ | refine wS ?_ ?_ <;> intro _ | refine wB ?_ ?_ | refine wF ?_)
    exact ⟨i + 1, by omega, by omega, ⟨rfl, rfl, rfl, rfl, iv (by omega), rfl⟩, sBEq (by rw [← st]; rfl), trivial⟩
  · have e : i = k := by omega
    subst e
    repeat' (first | refine wG ?_ | refine rg 3 22 ?_ | refine wR ?_ | refine wS ?_ ?_ <;> intro _ | refine wB ?_ ?_ | refine wF ?_)
    all_goals first | exact leVT | exact ⟨rfl, trivial⟩
theorem slices_rotate (n : Nat) (P U V Q : List Nat) (hu : 0 < U.length) (hv : 0 < V.length) (hn : P.length + U.length + V.length ≤ n) (hl : n ≤ (P ++ (U ++ (V ++ Q))).length) (hb : n ≤ 1000000) : RetB Try.prog 104 [sO n, .d (.int .i64 P.length), .d (.int .i64 (P.length + U.length : Nat)), .d (.int .i64 (P.length + U.length + V.length : Nat)), .d cmF] (lookB (sB (P ++ (U ++ (V ++ Q))))) (.tup []) (lookB (sB (P ++ (V ++ (U ++ Q))))) := by
  obtain ⟨L0, hL0⟩ : ∃ L0, P ++ (U ++ (V ++ Q)) = L0 := ⟨_, rfl⟩
  obtain ⟨LE, hLE⟩ : ∃ LE, P ++ (V ++ (U ++ Q)) = LE := ⟨_, rfl⟩
  have hlen : L0.length = LE.length := by rw [← hL0, ← hLE]; simp only [List.length_append]; omega
  obtain ⟨m, hm⟩ : ∃ m, P.length + U.length = m := ⟨_, rfl⟩
  have st0 : ∃ P' U' V' Q', L0 = P' ++ (U' ++ (V' ++ Q')) ∧ LE = P' ++ (V' ++ (U' ++ Q')) ∧ U'.length = U.length ∧ V'.length = V.length ∧ P'.length + U'.length = m ∧ m + V'.length ≤ n := ⟨P, U, V, Q, hL0.symm, hLE.symm, rfl, rfl, hm, by omega⟩
  rw [hL0] at hl ⊢
  rw [hLE, hm]
  clear hL0 hLE
  have e1 : ((m : Int) - P.length) = U.length := by omega
  have e2 : (((m + V.length : Nat) : Int) - m) = V.length := by omega
  refine retB_of_awp tab [500] Try.func104 rfl rfl rfl (Nat.le_of_ble_eq_true rfl) rfl ⟨by show L0.length ≤ LE.length; omega, trivial⟩ (fun w0 F0 A io0 => ?_)
  repeat' (first | refine wG ?_ | refine wR ?_ | refine wS ?_ ?_ <;> intro _ | refine wB ?_ ?_ | refine wF ?_)
  refine awp_loop3 (fun (L : List Nat) (i j : Nat) => ([(0, sO n), (2, .d (.int .i64 m)), (4, .d cmF), (10, .d (.int .i64 i)), (11, .d (.int .i64 j))], sB L)) (fun L i j => L.length = LE.length ∧ 0 < i ∧ 0 < j ∧ ∃ P' U' V' Q', L = P' ++ (U' ++ (V' ++ Q')) ∧ LE = P' ++ (V' ++ (U' ++ Q')) ∧ U'.length = i ∧ V'.length = j ∧ P'.length + U'.length = m ∧ m + V'.length ≤ n) (fun L i j => i + j) L0 U.length V.length ⟨hlen, hu, hv, st0⟩ ⟨rfl, rfl, rfl, iv (by omega), iv (by omega), rfl⟩ ⟨rfl, trivial⟩ (fun L i j hI => ?_)
  obtain ⟨hL, i0, j0, P', U', V', Q', r1, r2, r3, r4, r5, r6⟩ := hI
  clear st0
  by_cases hij : i = j
  · subst hij
    have sw := slices_swap n P' U' [] V' Q' (by omega) (by simp; omega) (by rw [List.nil_append, ← r1]; omega) hb
    rw [List.nil_append, List.nil_append, ← r1, ← r2, List.length_nil, Nat.add_zero, r5, r3, show ((P'.length : Nat) : Int) = (m : Int) - i by omega] at sw
    clear r1 r2
    repeat' (first | refine wG ?_ | refine wR ?_ | refine wS ?_ ?_ <;> intro _ | refine wB ?_ ?_ | refine wF ?_)
    repeat' (first | refine wG ?_ | refine wD [] sw ?_ | refine wR ?_ | refine wS ?_ ?_ <;> intro _ | refine wB ?_ ?_ | refine wF ?_)
    all_goals first | exact leVT | exact ⟨rfl, trivial⟩
  · by_cases hgt : j < i
    · obtain ⟨X, Y, hX, hXl⟩ : ∃ X Y, U' = X ++ Y ∧ X.length = j := ⟨U'.take j, U'.drop j, (List.take_append_drop j U').symm, by rw [List.length_take]; omega⟩
      subst hX
      rw [List.length_append] at r3 r5
      have sw := slices_swap n P' X Y V' Q' (by omega) (by omega) (by rw [← List.append_assoc X, ← r1]; omega) hb
      rw [← List.append_assoc X, ← r1, show P'.length + X.length + Y.length = m by omega, hXl, show ((P'.length : Nat) : Int) = (m : Int) - i by omega] at sw
      obtain ⟨L2, hL2⟩ : ∃ L2, P' ++ (V' ++ (Y ++ (X ++ Q'))) = L2 := ⟨_, rfl⟩
      rw [hL2] at sw
      have q1 : L2.length = LE.length := by rw [← hL2, r2]; simp only [List.length_append]; omega
      have q2 : ∃ P'' U'' V'' Q'', L2 = P'' ++ (U'' ++ (V'' ++ Q'')) ∧ LE = P'' ++ (V'' ++ (U'' ++ Q'')) ∧ U''.length = i - j ∧ V''.length = j ∧ P''.length + U''.length = m ∧ m + V''.length ≤ n := ⟨P' ++ V', Y, X, Q', by rw [← hL2]; simp, by rw [r2]; simp, by omega, hXl, by rw [List.length_append]; omega, by omega⟩
      clear r1 r2 hL2
      repeat' (first | refine wG ?_ | refine wD [] sw ?_ | refine wR ?_ | refine wS ?_ ?_ <;> intro _ | refine wB ?_ ?_ | refine wF ?_)
      exact ⟨L2, i - j, j, ⟨q1, by omega, j0, q2⟩, by omega, ⟨rfl, rfl, rfl, iv (by omega), rfl, rfl⟩, rfl, trivial⟩
    · obtain ⟨X, Y, hX, hYl⟩ : ∃ X Y, V' = X ++ Y ∧ Y.length = i := ⟨V'.take (j - i), V'.drop (j - i), (List.take_append_drop _ V').symm, by rw [List.length_drop]; omega⟩
      subst hX
      rw [List.length_append] at r4 r6
      have sw := slices_swap n P' U' X Y Q' (by omega) (by omega) (by rw [← List.append_assoc X, ← r1]; omega) hb
      rw [← List.append_assoc X, ← r1, r3, show ((P'.length + i + X.length : Nat) : Int) = (m : Int) + j - i by omega, show ((P'.length : Nat) : Int) = (m : Int) - i by omega] at sw
      obtain ⟨L2, hL2⟩ : ∃ L2, P' ++ (Y ++ (X ++ (U' ++ Q'))) = L2 := ⟨_, rfl⟩
      rw [hL2] at sw
      have q1 : L2.length = LE.length := by rw [← hL2, r2]; simp only [List.length_append]; omega
      have q2 : ∃ P'' U'' V'' Q'', L2 = P'' ++ (U'' ++ (V'' ++ Q'')) ∧ LE = P'' ++ (V'' ++ (U'' ++ Q'')) ∧ U''.length = i ∧ V''.length = j - i ∧ P''.length + U''.length = m ∧ m + V''.length ≤ n := ⟨P', Y, X, U' ++ Q', by rw [← hL2], by rw [r2]; simp, hYl, by omega, by omega, by omega⟩
      clear r1 r2 hL2
      repeat' (first | refine wG ?_ | refine wD [] sw ?_ | refine wR ?_ | refine wS ?_ ?_ <;> intro _ | refine wB ?_ ?_ | refine wF ?_)
      exact ⟨L2, i, j - i, ⟨q1, i0, by omega, q2⟩, by omega, ⟨rfl, rfl, rfl, rfl, iv (by omega), rfl⟩, rfl, trivial⟩
end Go.Proofs.Ytjooknpgcjicbaa

/-
  The library's stable sort, of terms by the number of factors: insertions. Conditions: as each says.
-/
set_option maxHeartbeats 8000000
namespace Go.Proofs.Ytjooknpgcjicbaa
open Go.Vw
attribute [local irreducible] awp awpL awpR

theorem cmpN_lt {x y : Nat} : cmpN x y < 0 ↔ x < y := by
  unfold cmpN
  constructor
  · intro h
    by_cases q : x < y
    · exact q
    · rw [if_neg q] at h
      split at h <;> exact absurd h (by decide)
  · intro h; rw [if_pos h]; decide
theorem slices_insert (n : Nat) (P S Q : List Nat) (hn : P.length + S.length ≤ n) (hl : n ≤ (P ++ (S ++ Q)).length) (hb : n ≤ 1000000) (bd : BdM 64 (P ++ (S ++ Q))) : RetB Try.prog 97 [sO n, .d (.int .i64 P.length), .d (.int .i64 (P.length + S.length : Nat)), .d cmF] (lookB (sB (P ++ (S ++ Q)))) (.tup []) (lookB (sB (P ++ (isortM S ++ Q)))) := by
  obtain ⟨Z, hZ⟩ : ∃ Z : Nat → List Nat, ∀ k, Z k = P ++ (isortM (S.take k) ++ (S.drop k ++ Q)) := ⟨fun k => _, fun _ => rfl⟩
  have z1 : Z 1 = P ++ (S ++ Q) := by
    rw [hZ]
    cases S with
    | nil => rfl
    | cons x S => rfl
  have zE : ∀ k, S.length ≤ k → Z k = P ++ (isortM S ++ Q) := fun k hk => by rw [hZ, List.take_of_length_le hk, List.drop_eq_nil_of_le hk]; rfl
  have zL : ∀ k, (Z k).length = (P ++ (S ++ Q)).length := fun k => by
    rw [hZ]; simp only [List.length_append, isortM_len, List.length_take, List.length_drop]; omega
  have zB : ∀ k, BdM 64 (Z k) := fun k t ht => by
    rw [hZ] at ht
    refine bd t ?_
    simp only [List.mem_append] at ht ⊢
    rcases ht with h | h | h | h
    · exact .inl h
    · exact .inr (.inl (List.mem_of_mem_take ((isortM_spec _).1.mem_iff.1 h)))
    · exact .inr (.inl (List.mem_of_mem_drop h))
    · exact .inr (.inr h)
  have zS : ∀ k, k < S.length → ∃ (c q : Nat) (W : Nat → List Nat), c + q = P.length + k ∧ P.length ≤ c ∧ W q = Z k ∧ W 0 = Z (k + 1) ∧ (∀ r, r ≤ q → (W r).length = (Z k).length) ∧ (∀ r, r < q → swpM (W (r + 1)) (c + r) (c + r + 1) = W r) ∧ (∀ r, r < q → popc ((W (r + 1)).getD (c + r + 1) 0) < popc ((W (r + 1)).getD (c + r) 0)) ∧ (P.length < c → ¬ popc ((W 0).getD c 0) < popc ((W 0).getD (c - 1) 0)) ∧ ∀ r, BdM 64 (W r) := fun k hk => by
    obtain ⟨u, hu, tu⟩ := drop_get hk
    obtain ⟨c, q, W, a1, a2, a3, a4, a5, a6, a7, a8, a9, a10⟩ := ins_family P (isortM (S.take k)) (S.drop (k + 1) ++ Q) u (isortM_spec _).2
    have e1 : P ++ (isortM (S.take k) ++ (u :: (S.drop (k + 1) ++ Q))) = Z k := by rw [hZ, hu]; rfl
    have e2 : P ++ (insM u (isortM (S.take k)) ++ (S.drop (k + 1) ++ Q)) = Z (k + 1) := by rw [hZ, tu, isortM_snoc]
    rw [e1] at a3 a5 a10
    rw [e2] at a4
    rw [isortM_len, List.length_take] at a1
    refine ⟨c, q, W, by omega, a2, a3, a4, a5, a6, fun r hr => ?_, fun h => ?_, fun r t ht => zB k t (a10 r t ht)⟩
    · have := a7 (r + 1) (by omega)
      rw [show c + (r + 1) = c + r + 1 by omega] at this
      rw [this]; exact a8 r hr
    · have := a7 0 (by omega)
      rw [Nat.add_zero] at this
      rw [this]; exact a9 h
  rw [← z1] at hl zL ⊢
  rw [← zE S.length (Nat.le_refl _)]
  rw [show Z S.length = Z (max 1 S.length) by rw [zE _ (Nat.le_refl _), zE _ (Nat.le_max_right _ _)]]
  clear hZ bd z1 zE
  generalize P.length = p at *
  refine retB_of_awp tab [500] Try.func97 rfl rfl rfl (Nat.le_of_ble_eq_true rfl) rfl ⟨by show (Z 1).length ≤ (Z (max 1 S.length)).length; rw [zL (max 1 S.length)]; exact Nat.le_refl _, trivial⟩ (fun w0 F0 A io0 => ?_)
  repeat' (first | refine wG ?_ | refine rg 4 14 ?_ | refine rg 6 16 ?_ | refine wR ?_ | refine wS ?_ ?_ <;> intro _ | refine wB ?_ ?_ | refine wF ?_)
  refine awp_loop1 (fun (k : Nat) => ([(0, sO n), (1, .d (.int .i64 p)), (2, .d (.int .i64 (p + S.length : Nat))), (3, .d cmF), (8, .d (.int .i64 (p + k : Nat)))], sB (Z k))) (fun k => 1 ≤ k ∧ k ≤ max 1 S.length) (fun k => max 1 S.length - k) 1 ⟨Nat.le_refl _, Nat.le_max_left _ _⟩ ⟨rfl, rfl, rfl, rfl, iv (by omega), rfl⟩ ⟨rfl, trivial⟩ (fun k hk => ?_)
  by_cases h3 : k < S.length
  · obtain ⟨c, q, W, a1, a2, a3, a4, a5, a6, a7, a8, a9⟩ := zS k h3
    have zl := zL k
    clear zS
    repeat' (first | refine wG ?_ | refine rg 4 14 ?_ | refine rg 6 16 ?_ | refine wR ?_ | refine wS ?_ ?_ <;> intro _ | refine wB ?_ ?_ | refine wF ?_)
    refine awp_loop1 (fun (r : Nat) => ([(0, sO n), (1, .d (.int .i64 p)), (2, .d (.int .i64 (p + S.length : Nat))), (3, .d cmF), (8, .d (.int .i64 (p + k : Nat))), (9, .d (.int .i64 (c + r : Nat)))], sB (W r))) (fun r => r ≤ q) (fun r => r) q (Nat.le_refl _) ⟨rfl, rfl, rfl, rfl, rfl, iv (by omega), rfl⟩ ⟨sBEq a3.symm, trivial⟩ (fun r hr => ?_)
    have wl := a5 r hr
    by_cases hr0 : r = 0
    · subst hr0
      by_cases hc : p < c
      · have cm := Expand_cmp ((W 0).getD c 0) ((W 0).getD (c - 1) 0) ((a9 0).getD _) ((a9 0).getD _)
        have ng : ¬ cmpN (popc ((W 0).getD c 0)) (popc ((W 0).getD (c - 1) 0)) < 0 := fun h => a8 hc (cmpN_lt.1 h)
        rw [← show (((c + 0 : Nat) : Int) - 1).toNat = c - 1 by omega] at cm ng
        generalize cmpN (popc ((W 0).getD c 0)) (popc ((W 0).getD (((c + 0 : Nat) : Int) - 1).toNat 0)) = z at *
        clear a6 a7 a8 a9
        repeat' (first | refine wG ?_ | refine wC cm ?_ | refine rg 4 14 ?_ | refine rg 6 16 ?_ | refine wR ?_ | refine wS ?_ ?_ <;> intro _ | refine wB ?_ ?_ | refine wF ?_)
        exact ⟨k + 1, ⟨by omega, by omega⟩, by omega, ⟨rfl, rfl, rfl, rfl, iv (by omega), rfl⟩, sBEq a4, trivial⟩
      · have e : c = p := by omega
        subst e
        clear a6 a7 a8 a9
        repeat' (first | refine wG ?_ | refine rg 4 14 ?_ | refine rg 6 16 ?_ | refine wR ?_ | refine wS ?_ ?_ <;> intro _ | refine wB ?_ ?_ | refine wF ?_)
        exact ⟨k + 1, ⟨by omega, by omega⟩, by omega, ⟨rfl, rfl, rfl, rfl, iv (by omega), rfl⟩, sBEq a4, trivial⟩
    · obtain ⟨r, rfl⟩ : ∃ r', r = r' + 1 := ⟨r - 1, by omega⟩
      have cm := Expand_cmp ((W (r + 1)).getD (c + (r + 1)) 0) ((W (r + 1)).getD (c + r) 0) ((a9 _).getD _) ((a9 _).getD _)
      have ps : cmpN (popc ((W (r + 1)).getD (c + (r + 1)) 0)) (popc ((W (r + 1)).getD (c + r) 0)) < 0 := cmpN_lt.2 (a7 r (by omega))
      have st := a6 r (by omega)
      rw [show c + r + 1 = c + (r + 1) by omega] at st
      generalize hd : c + (r + 1) = d at *
      generalize hV : W (r + 1) = V at *
      have e1 : ((d : Int) - 1).toNat = c + r := by omega
      rw [← e1] at cm ps
      generalize hz : cmpN (popc (V.getD d 0)) (popc (V.getD ((d : Int) - 1).toNat 0)) = z at *
      clear a6 a7 a8 a9 hV hz a3 a4 a5
      repeat' (first | refine wC cm ?_ | refine wG ?_ | refine rg 4 14 ?_ | refine rg 6 16 ?_ | refine wR ?_ | refine wS ?_ ?_ <;> intro _ | refine wB ?_ ?_ | refine wF ?_)
      exact ⟨r, by omega, by omega, ⟨rfl, rfl, rfl, rfl, rfl, iv (by omega), rfl⟩, sBEq (by rw [← st, e1]; exact swpM_comm _ (by omega)), trivial⟩
  · have e : k = max 1 S.length := by omega
    subst e
    clear zS
    repeat' (first | refine wG ?_ | refine rg 4 14 ?_ | refine rg 6 16 ?_ | refine wR ?_ | refine wS ?_ ?_ <;> intro _ | refine wB ?_ ?_ | refine wF ?_)
    all_goals first | exact leVT | exact ⟨rfl, trivial⟩
end Go.Proofs.Ytjooknpgcjicbaa

/-
  The library's stable sort, of terms by the number of factors: merging in place. Conditions: as each says.
-/
set_option maxHeartbeats 8000000
namespace Go.Proofs.Ytjooknpgcjicbaa
open Go.Vw
attribute [local irreducible] awp awpL awpR

abbrev MgC (n : Nat) (P U V Q : List Nat) : Prop := ∃ C, C.Perm (U ++ V) ∧ AscM C ∧ RetB Try.prog 98 [sO n, .d (.int .i64 P.length), .d (.int .i64 (P.length + U.length : Nat)), .d (.int .i64 (P.length + U.length + V.length : Nat)), .d cmF] (lookB (sB (P ++ (U ++ (V ++ Q))))) (.tup []) (lookB (sB (P ++ (C ++ Q))))
theorem merge_left (n : Nat) (hb : n ≤ 1000) (P : List Nat) (x : Nat) (V Q : List Nat) (hn : P.length + 1 + V.length ≤ n) (hl : n ≤ (P ++ ([x] ++ (V ++ Q))).length) (hV : AscM V) (bd : BdM 64 (P ++ ([x] ++ (V ++ Q)))) : MgC n P [x] V Q := by
  obtain ⟨r, r1, r2, r3, r4⟩ := bound_ex (fun c => popc (V.getD c 0) < popc x) 0 V.length (fun c c' _ h1 h2 h3 h4 => h3 (Nat.lt_of_le_of_lt (asc_get hV (Nat.le_of_lt h1) (by omega)) h4))
  rw [Nat.zero_add] at r2 r4
  refine ⟨V.take r ++ (x :: V.drop r), ?_, ?_, ?_⟩
  · have := List.perm_middle (a := x) (l₁ := V.take r) (l₂ := V.drop r)
    rw [List.take_append_drop] at this
    exact this
  · refine asc_app (asc_take hV r) ?_ fun y hy z hz => ?_
    · refine List.pairwise_cons.2 ⟨fun z hz => ?_, asc_drop hV r⟩
      obtain ⟨i, hi, e⟩ := mem_getD hz
      rw [List.length_drop] at hi
      rw [getD_dropL] at e
      have := r4 (r + i) (by omega) (by omega)
      rw [e] at this; omega
    · obtain ⟨i, hi, e⟩ := mem_getD hy
      rw [List.length_take] at hi
      rw [getD_takeL (by omega)] at e
      have h1 := r3 i (by omega) (by omega)
      rw [e] at h1
      rcases List.mem_cons.1 hz with rfl | hz
      · omega
      · obtain ⟨j, hj, e2⟩ := mem_getD hz
        rw [List.length_drop] at hj
        rw [getD_dropL] at e2
        have := asc_get hV (show i ≤ r + j by omega) (by omega)
        rw [e, e2] at this; exact this
  · have w0 : P ++ ([x] ++ (V ++ Q)) = shW P V Q x 0 := by unfold shW; simp
    have wr : P ++ ((V.take r ++ (x :: V.drop r)) ++ Q) = shW P V Q x r := by unfold shW; simp
    have gx : (shW P V Q x 0).getD P.length 0 = x := by rw [← w0]; exact getD_at P _ x rfl
    have gv : ∀ c, c < V.length → (shW P V Q x 0).getD (P.length + 1 + c) 0 = V.getD c 0 := fun c hc => by
      have := get_mid (P ++ [x]) V Q (c := c) (i := P.length + 1 + c) (by simp) hc
      rw [← w0]; simpa using this
    have cm := fun h => Expand_cmp ((shW P V Q x 0).getD h 0) ((shW P V Q x 0).getD P.length 0) (by rw [← w0]; exact bd.getD _) (by rw [← w0]; exact bd.getD _)
    have wl := fun q => shW_len P V Q x q
    have ws := fun q (hq : q < V.length) => shW_step P V Q x hq
    rw [w0] at hl ⊢
    rw [wr]
    clear bd w0 wr
    generalize shW P V Q x = W at *
    rw [show [x].length = 1 from rfl]
    generalize P.length = a at *
    refine retB_of_awp tab [500] Try.func98 rfl rfl rfl (Nat.le_of_ble_eq_true rfl) rfl ⟨by show (W 0).length ≤ (W r).length; rw [wl, wl]; exact Nat.le_refl _, trivial⟩ (fun w0 F0 A io0 => ?_)
    repeat' (first | refine wG ?_ | refine rg 5 9 ?_ | refine rg 11 16 ?_ | refine rg 17 9 ?_ | refine rg 23 16 ?_ | refine rg 35 11 ?_ | refine wR ?_ | refine wS ?_ ?_ <;> intro _ | refine wB ?_ ?_ | refine wF ?_)
    refine awp_loop2 (fun (i j : Nat) => ([(0, sO n), (1, .d (.int .i64 a)), (4, .d cmF), (10, .d (.int .i64 i)), (11, .d (.int .i64 j))], sB (W 0))) (fun i j => a + 1 ≤ i ∧ i ≤ a + 1 + r ∧ a + 1 + r ≤ j ∧ j ≤ a + 1 + V.length) (fun i j => j - i) (a + 1) (a + 1 + V.length) ⟨by omega, by omega, by omega, by omega⟩ ⟨rfl, rfl, rfl, iv (by omega), iv (by omega), rfl⟩ ⟨rfl, trivial⟩ (fun i j hI => ?_)
    obtain ⟨i1, i2, i3, i4⟩ := hI
    have wl0 := wl 0
    by_cases hij : i < j
    · have e1 : (((i : Int) + j) / 2).toNat = (i + j) / 2 := by omega
      have c := cm (((i : Int) + j) / 2).toNat
      have g := gv ((i + j) / 2 - (a + 1)) (by omega)
      rw [show a + 1 + ((i + j) / 2 - (a + 1)) = (i + j) / 2 by omega] at g
      by_cases hr : (i + j) / 2 - (a + 1) < r
      · have rv := r3 ((i + j) / 2 - (a + 1)) (Nat.zero_le _) hr
        rw [← g, ← gx, ← e1] at rv
        have ps : cmpN (popc ((W 0).getD (((i : Int) + j) / 2).toNat 0)) (popc ((W 0).getD a 0)) < 0 := cmpN_lt.2 rv
        generalize cmpN (popc ((W 0).getD (((i : Int) + j) / 2).toNat 0)) (popc ((W 0).getD a 0)) = z at *
        clear cm gv ws wl g r3 r4 gx rv
        repeat' (first | refine wC c ?_ | refine wG ?_ | refine rg 5 9 ?_ | refine rg 11 16 ?_ | refine rg 17 9 ?_ | refine rg 23 16 ?_ | refine rg 35 11 ?_ | refine wR ?_ | refine wS ?_ ?_ <;> intro _ | refine wB ?_ ?_ | refine wF ?_)
        exact ⟨(i + j) / 2 + 1, j, ⟨by omega, by omega, by omega, by omega⟩, by omega, ⟨rfl, rfl, rfl, iv (by omega), rfl, rfl⟩, rfl, trivial⟩
      · have rv := r4 ((i + j) / 2 - (a + 1)) (by omega) (by omega)
        rw [← g, ← gx, ← e1] at rv
        have ng : ¬ cmpN (popc ((W 0).getD (((i : Int) + j) / 2).toNat 0)) (popc ((W 0).getD a 0)) < 0 := fun h => rv (cmpN_lt.1 h)
        generalize cmpN (popc ((W 0).getD (((i : Int) + j) / 2).toNat 0)) (popc ((W 0).getD a 0)) = z at *
        clear cm gv ws wl g r3 r4 gx rv
        repeat' (first | refine wC c ?_ | refine wG ?_ | refine rg 5 9 ?_ | refine rg 11 16 ?_ | refine rg 17 9 ?_ | refine rg 23 16 ?_ | refine rg 35 11 ?_ | refine wR ?_ | refine wS ?_ ?_ <;> intro _ | refine wB ?_ ?_ | refine wF ?_)
        exact ⟨i, (i + j) / 2, ⟨by omega, by omega, by omega, by omega⟩, by omega, ⟨rfl, rfl, rfl, rfl, iv (by omega), rfl⟩, rfl, trivial⟩
    · have ei : i = a + 1 + r := by omega
      subst ei
      clear cm gv r3 r4 gx
      repeat' (first | refine wG ?_ | refine rg 5 9 ?_ | refine rg 11 16 ?_ | refine rg 17 9 ?_ | refine rg 23 16 ?_ | refine rg 35 11 ?_ | refine wR ?_ | refine wS ?_ ?_ <;> intro _ | refine wB ?_ ?_ | refine wF ?_)
      refine awp_loop1 (fun (q : Nat) => ([(0, sO n), (10, .d (.int .i64 (a + 1 + r : Nat))), (13, .d (.int .i64 (a + q : Nat)))], sB (W q))) (fun q => q ≤ r) (fun q => r - q) 0 (by omega) ⟨rfl, rfl, iv (by omega), rfl⟩ ⟨rfl, trivial⟩ (fun q hq => ?_)
      have wlq := wl q
      by_cases h3 : q < r
      · have st := ws q (by omega)
        have e1 : (((a + q : Nat) : Int) + 1).toNat = a + q + 1 := by omega
        clear ws wl
        repeat' (first | refine wG ?_ | refine rg 5 9 ?_ | refine rg 11 16 ?_ | refine rg 17 9 ?_ | refine rg 23 16 ?_ | refine rg 35 11 ?_ | refine wR ?_ | refine wS ?_ ?_ <;> intro _ | refine wB ?_ ?_ | refine wF ?_)
        exact ⟨q + 1, by omega, by omega, ⟨rfl, rfl, iv (by omega), rfl⟩, sBEq (by rw [← st]; rfl), trivial⟩
      · have e : q = r := by omega
        subst e
        clear ws wl
        repeat' (first | refine wG ?_ | refine rg 5 9 ?_ | refine rg 11 16 ?_ | refine rg 17 9 ?_ | refine rg 23 16 ?_ | refine rg 35 11 ?_ | refine wR ?_ | refine wS ?_ ?_ <;> intro _ | refine wB ?_ ?_ | refine wF ?_)
        all_goals first | exact leVT | exact ⟨rfl, trivial⟩
end Go.Proofs.Ytjooknpgcjicbaa

/-
  The library's stable sort, of terms by the number of factors: merging in place. Conditions: as each says.
-/
set_option maxHeartbeats 8000000
namespace Go.Proofs.Ytjooknpgcjicbaa
open Go.Vw
attribute [local irreducible] awp awpL awpR

theorem merge_right (n : Nat) (hb : n ≤ 1000) (P U : List Nat) (y : Nat) (Q : List Nat) (hu : 1 < U.length) (hn : P.length + U.length + 1 ≤ n) (hl : n ≤ (P ++ (U ++ ([y] ++ Q))).length) (hU : AscM U) (bd : BdM 64 (P ++ (U ++ ([y] ++ Q)))) : MgC n P U [y] Q := by
  obtain ⟨r, r1, r2, r3, r4⟩ := bound_ex (fun c => ¬ popc y < popc (U.getD c 0)) 0 U.length (fun c c' _ h1 h2 h3 h4 => h4 (by
    have := asc_get hU (Nat.le_of_lt h1) (show c' < U.length by omega)
    have h3 : popc y < popc (U.getD c 0) := Decidable.not_not.1 h3
    omega))
  rw [Nat.zero_add] at r2 r4
  refine ⟨U.take r ++ (y :: U.drop r), ?_, ?_, ?_⟩
  · have := List.perm_middle (a := y) (l₁ := U.take r) (l₂ := U.drop r)
    rw [List.take_append_drop] at this
    exact this.trans (List.perm_append_singleton y U).symm
  · refine asc_app (asc_take hU r) ?_ fun x hx z hz => ?_
    · refine List.pairwise_cons.2 ⟨fun z hz => ?_, asc_drop hU r⟩
      obtain ⟨i, hi, e⟩ := mem_getD hz
      rw [List.length_drop] at hi
      rw [getD_dropL] at e
      have := r4 (r + i) (by omega) (by omega)
      rw [e] at this; omega
    · obtain ⟨i, hi, e⟩ := mem_getD hx
      rw [List.length_take] at hi
      rw [getD_takeL (by omega)] at e
      have h1 := r3 i (by omega) (by omega)
      rw [e] at h1
      rcases List.mem_cons.1 hz with rfl | hz
      · omega
      · obtain ⟨j, hj, e2⟩ := mem_getD hz
        rw [List.length_drop] at hj
        rw [getD_dropL] at e2
        have := asc_get hU (show i ≤ r + j by omega) (by omega)
        rw [e, e2] at this; exact this
  · have w0 : P ++ (U ++ ([y] ++ Q)) = shW P U Q y U.length := by unfold shW; rw [List.take_of_length_le (Nat.le_refl _), List.drop_eq_nil_of_le (Nat.le_refl _)]; simp
    have wr : P ++ ((U.take r ++ (y :: U.drop r)) ++ Q) = shW P U Q y r := by unfold shW; simp
    have gy : (shW P U Q y U.length).getD (P.length + U.length) 0 = y := by
      rw [← w0, ← List.append_assoc]
      exact getD_at (P ++ U) _ y (by simp)
    have gu : ∀ c, c < U.length → (shW P U Q y U.length).getD (P.length + c) 0 = U.getD c 0 := fun c hc => by
      rw [← w0]; exact get_mid P U _ rfl hc
    have cm := fun h => Expand_cmp ((shW P U Q y U.length).getD (P.length + U.length) 0) ((shW P U Q y U.length).getD h 0) (by rw [← w0]; exact bd.getD _) (by rw [← w0]; exact bd.getD _)
    have wl := fun q => shW_len P U Q y q
    have ws := fun q (hq : q < U.length) => shW_back P U Q y hq
    rw [w0] at hl ⊢
    rw [wr]
    clear bd w0 wr
    generalize shW P U Q y = W at *
    rw [show [y].length = 1 from rfl]
    generalize P.length = a at *
    generalize hk : U.length = k at *
    obtain ⟨m, hm⟩ : ∃ m, a + k = m := ⟨_, rfl⟩
    rw [hm] at gy cm ⊢
    refine retB_of_awp tab [500] Try.func98 rfl rfl rfl (Nat.le_of_ble_eq_true rfl) rfl ⟨by show (W k).length ≤ (W r).length; rw [wl, wl]; exact Nat.le_refl _, trivial⟩ (fun w0 F0 A io0 => ?_)
    repeat' (first | refine wG ?_ | refine rg 5 9 ?_ | refine rg 11 16 ?_ | refine rg 17 9 ?_ | refine rg 23 16 ?_ | refine rg 35 11 ?_ | refine wR ?_ | refine wS ?_ ?_ <;> intro _ | refine wB ?_ ?_ | refine wF ?_)
    refine awp_loop2 (fun (i j : Nat) => ([(0, sO n), (2, .d (.int .i64 m)), (4, .d cmF), (14, .d (.int .i64 i)), (15, .d (.int .i64 j))], sB (W k))) (fun i j => a ≤ i ∧ i ≤ a + r ∧ a + r ≤ j ∧ j ≤ m) (fun i j => j - i) a m ⟨by omega, by omega, by omega, by omega⟩ ⟨rfl, rfl, rfl, rfl, rfl, rfl⟩ ⟨rfl, trivial⟩ (fun i j hI => ?_)
    obtain ⟨i1, i2, i3, i4⟩ := hI
    have wl0 := wl k
    by_cases hij : i < j
    · have e1 : (((i : Int) + j) / 2).toNat = (i + j) / 2 := by omega
      have c := cm (((i : Int) + j) / 2).toNat
      have g := gu ((i + j) / 2 - a) (by omega)
      rw [show a + ((i + j) / 2 - a) = (i + j) / 2 by omega] at g
      by_cases hr : (i + j) / 2 - a < r
      · have rv := r3 ((i + j) / 2 - a) (Nat.zero_le _) hr
        rw [← g, ← gy, ← e1] at rv
        have ng : ¬ cmpN (popc ((W k).getD m 0)) (popc ((W k).getD (((i : Int) + j) / 2).toNat 0)) < 0 := fun h => rv (cmpN_lt.1 h)
        generalize cmpN (popc ((W k).getD m 0)) (popc ((W k).getD (((i : Int) + j) / 2).toNat 0)) = z at *
        clear cm gu ws wl g r3 r4 gy rv
        repeat' (first | refine wC c ?_ | refine wG ?_ | refine rg 5 9 ?_ | refine rg 11 16 ?_ | refine rg 17 9 ?_ | refine rg 23 16 ?_ | refine rg 35 11 ?_ | refine wR ?_ | refine wS ?_ ?_ <;> intro _ | refine wB ?_ ?_ | refine wF ?_)
        exact ⟨(i + j) / 2 + 1, j, ⟨by omega, by omega, by omega, by omega⟩, by omega, ⟨rfl, rfl, rfl, iv (by omega), rfl, rfl⟩, rfl, trivial⟩
      · have rv := Decidable.not_not.1 (r4 ((i + j) / 2 - a) (by omega) (by omega))
        rw [← g, ← gy, ← e1] at rv
        have ps : cmpN (popc ((W k).getD m 0)) (popc ((W k).getD (((i : Int) + j) / 2).toNat 0)) < 0 := cmpN_lt.2 rv
        generalize cmpN (popc ((W k).getD m 0)) (popc ((W k).getD (((i : Int) + j) / 2).toNat 0)) = z at *
        clear cm gu ws wl g r3 r4 gy rv
        repeat' (first | refine wC c ?_ | refine wG ?_ | refine rg 5 9 ?_ | refine rg 11 16 ?_ | refine rg 17 9 ?_ | refine rg 23 16 ?_ | refine rg 35 11 ?_ | refine wR ?_ | refine wS ?_ ?_ <;> intro _ | refine wB ?_ ?_ | refine wF ?_)
        exact ⟨i, (i + j) / 2, ⟨by omega, by omega, by omega, by omega⟩, by omega, ⟨rfl, rfl, rfl, rfl, iv (by omega), rfl⟩, rfl, trivial⟩
    · have ei : i = a + r := by omega
      subst ei
      clear cm gu r3 r4 gy
      repeat' (first | refine wG ?_ | refine rg 5 9 ?_ | refine rg 11 16 ?_ | refine rg 17 9 ?_ | refine rg 23 16 ?_ | refine rg 35 11 ?_ | refine wR ?_ | refine wS ?_ ?_ <;> intro _ | refine wB ?_ ?_ | refine wF ?_)
      refine awp_loop1 (fun (q : Nat) => ([(0, sO n), (14, .d (.int .i64 (a + r : Nat))), (17, .d (.int .i64 (a + q : Nat)))], sB (W q))) (fun q => r ≤ q ∧ q ≤ k) (fun q => q) k (by omega) ⟨rfl, rfl, iv (by omega), rfl⟩ ⟨rfl, trivial⟩ (fun q hq => ?_)
      have wlq := wl q
      by_cases h3 : r < q
      · obtain ⟨q, rfl⟩ : ∃ q', q = q' + 1 := ⟨q - 1, by omega⟩
        have st := ws q (by omega)
        rw [show a + q + 1 = a + (q + 1) by omega] at st
        have e1 : (((a + (q + 1) : Nat) : Int) - 1).toNat = a + q := by omega
        clear ws wl
        repeat' (first | refine wG ?_ | refine rg 5 9 ?_ | refine rg 11 16 ?_ | refine rg 17 9 ?_ | refine rg 23 16 ?_ | refine rg 35 11 ?_ | refine wR ?_ | refine wS ?_ ?_ <;> intro _ | refine wB ?_ ?_ | refine wF ?_)
        exact ⟨q, by omega, by omega, ⟨rfl, rfl, iv (by omega), rfl⟩, sBEq (by rw [← st, e1]; exact swpM_comm _ (by omega)), trivial⟩
      · have e : q = r := by omega
        subst e
        clear ws wl
        repeat' (first | refine wG ?_ | refine rg 5 9 ?_ | refine rg 11 16 ?_ | refine rg 17 9 ?_ | refine rg 23 16 ?_ | refine rg 35 11 ?_ | refine wR ?_ | refine wS ?_ ?_ <;> intro _ | refine wB ?_ ?_ | refine wF ?_)
        all_goals first | exact leVT | exact ⟨rfl, trivial⟩
end Go.Proofs.Ytjooknpgcjicbaa

/-
  The library's stable sort, of terms by the number of factors: merging in place, the walk. Conditions: as each says.
-/
set_option maxHeartbeats 8000000
namespace Go.Proofs.Ytjooknpgcjicbaa
open Go.Vw
attribute [local irreducible] awp awpL awpR

theorem merge_walk (n a m b mid s0 r0 r : Nat) (L L1 L2 LE : List Nat) (hb : n ≤ 1000) (ham : a + 1 < m) (hmb : m + 1 < b) (hbn : b ≤ n) (hmid : mid = (a + b) / 2) (h0 : (mid < m ∧ s0 = mid + m - b ∧ r0 = mid) ∨ (m ≤ mid ∧ s0 = a ∧ r0 = m)) (q1 : s0 ≤ r) (q2 : r ≤ r0) (q3 : ∀ c, s0 ≤ c → c < r → ¬ popc (L.getD (mid + m - 1 - c) 0) < popc (L.getD c 0)) (q4 : ∀ c, r ≤ c → c < r0 → popc (L.getD (mid + m - 1 - c) 0) < popc (L.getD c 0)) (q5 : a ≤ r) (q6 : r ≤ m) (q7 : m ≤ mid + m - r) (q8 : mid + m - r ≤ b) (bL : BdM 64 L) (ll : n ≤ L.length) (l1 : L1.length = L.length) (l2 : L2.length = L1.length) (lE : LE.length = L2.length) (rot : r < m → r < mid → RetB Try.prog 104 [sO n, .d (.int .i64 r), .d (.int .i64 m), .d (.int .i64 ((mid : Int) + m - r)), .d cmF] (lookB (sB L)) (.tup []) (lookB (sB L1))) (noR : ¬ (r < m ∧ r < mid) → L = L1) (c1 : a < r → r < mid → RetB Try.prog 98 [sO n, .d (.int .i64 a), .d (.int .i64 r), .d (.int .i64 mid), .d cmF] (lookB (sB L1)) (.tup []) (lookB (sB L2))) (noC : ¬ (a < r ∧ r < mid) → L1 = L2) (c2 : r < m → mid + m - r < b → RetB Try.prog 98 [sO n, .d (.int .i64 mid), .d (.int .i64 ((mid : Int) + m - r)), .d (.int .i64 b), .d cmF] (lookB (sB L2)) (.tup []) (lookB (sB LE))) (noD : ¬ (r < m ∧ mid + m - r < b) → L2 = LE) : RetB Try.prog 98 [sO n, .d (.int .i64 a), .d (.int .i64 m), .d (.int .i64 b), .d cmF] (lookB (sB L)) (.tup []) (lookB (sB LE)) := by
  have cm := fun x y => Expand_cmp (L.getD x 0) (L.getD y 0) (bL.getD _) (bL.getD _)
  clear bL
  refine retB_of_awp tab [500] Try.func98 rfl rfl rfl (Nat.le_of_ble_eq_true rfl) rfl ⟨by show L.length ≤ LE.length; omega, trivial⟩ (fun w0 F0 A io0 => ?_)
  repeat' (first | refine stopA 27 tt ?_ | refine wG ?_ | refine rg 5 9 ?_ | refine rg 11 16 ?_ | refine rg 17 9 ?_ | refine rg 23 16 ?_ | refine rg 35 11 ?_ | refine wS ?_ ?_ <;> intro _ | refine wB ?_ ?_)
  refine stopOut ?_
  refine awp_meet1 (fun (_ : Unit) => ([(0, sO n), (1, .d (.int .i64 a)), (2, .d (.int .i64 m)), (3, .d (.int .i64 b)), (4, .d cmF), (18, .d (.int .i64 mid)), (19, .d (.int .i64 (mid + m : Nat))), (20, .d (.int .i64 s0)), (21, .d (.int .i64 r0))], sB L)) (fun _ => True) (fun _ _ => ?_) ?_
  · have rr : ∀ c, s0 ≤ c → c < r0 → a ≤ c ∧ c < m ∧ m ≤ mid + m - 1 - c ∧ mid + m - 1 - c < b := fun c h1 h2 => by omega
    clear h0
    repeat' (first | refine wG ?_ | refine rg 5 9 ?_ | refine rg 11 16 ?_ | refine rg 17 9 ?_ | refine rg 23 16 ?_ | refine rg 35 11 ?_ | refine wS ?_ ?_ <;> intro _ | refine wB ?_ ?_)
    refine awp_loop2 (fun (i j : Nat) => ([(0, sO n), (1, .d (.int .i64 a)), (2, .d (.int .i64 m)), (3, .d (.int .i64 b)), (4, .d cmF), (18, .d (.int .i64 mid)), (19, .d (.int .i64 (mid + m : Nat))), (20, .d (.int .i64 i)), (21, .d (.int .i64 j)), (22, .d (.int .i64 ((mid : Int) + m - 1)))], sB L)) (fun i j => s0 ≤ i ∧ i ≤ r ∧ r ≤ j ∧ j ≤ r0) (fun i j => j - i) s0 r0 ⟨by omega, by omega, by omega, by omega⟩ ⟨rfl, rfl, rfl, rfl, rfl, rfl, rfl, rfl, rfl, iv (by omega), rfl⟩ ⟨rfl, trivial⟩ (fun i j hI => ?_)
    obtain ⟨i1, i2, i3, i4⟩ := hI
    by_cases hij : i < j
    · have e1 : (((i : Int) + j) / 2).toNat = (i + j) / 2 := by omega
      obtain ⟨g1, g2, g3, g4⟩ := rr ((i + j) / 2) (by omega) (by omega)
      have e2 : ((mid : Int) + m - 1 - ((i : Int) + j) / 2).toNat = mid + m - 1 - (i + j) / 2 := by omega
      have c := cm ((mid : Int) + m - 1 - ((i : Int) + j) / 2).toNat (((i : Int) + j) / 2).toNat
      by_cases hr : (i + j) / 2 < r
      · have ng : ¬ cmpN (popc (L.getD ((mid : Int) + m - 1 - ((i : Int) + j) / 2).toNat 0)) (popc (L.getD (((i : Int) + j) / 2).toNat 0)) < 0 := fun h => by
          have := cmpN_lt.1 h
          rw [e2, e1] at this
          exact q3 ((i + j) / 2) (by omega) hr this
        generalize cmpN (popc (L.getD ((mid : Int) + m - 1 - ((i : Int) + j) / 2).toNat 0)) (popc (L.getD (((i : Int) + j) / 2).toNat 0)) = z at *
        clear cm q3 q4 rot c1 c2 noR noC noD rr
        repeat' (first | refine wC c ?_ | refine wG ?_ | refine rg 5 9 ?_ | refine rg 11 16 ?_ | refine rg 17 9 ?_ | refine rg 23 16 ?_ | refine rg 35 11 ?_ | refine wS ?_ ?_ <;> intro _ | refine wB ?_ ?_)
        exact ⟨(i + j) / 2 + 1, j, ⟨by omega, by omega, by omega, by omega⟩, by omega, ⟨rfl, rfl, rfl, rfl, rfl, rfl, rfl, iv (by omega), rfl, rfl, rfl⟩, rfl, trivial⟩
      · have ps : cmpN (popc (L.getD ((mid : Int) + m - 1 - ((i : Int) + j) / 2).toNat 0)) (popc (L.getD (((i : Int) + j) / 2).toNat 0)) < 0 := cmpN_lt.2 (by
          rw [e2, e1]
          exact q4 ((i + j) / 2) (by omega) (by omega))
        generalize cmpN (popc (L.getD ((mid : Int) + m - 1 - ((i : Int) + j) / 2).toNat 0)) (popc (L.getD (((i : Int) + j) / 2).toNat 0)) = z at *
        clear cm q3 q4 rot c1 c2 noR noC noD rr
        repeat' (first | refine wC c ?_ | refine wG ?_ | refine rg 5 9 ?_ | refine rg 11 16 ?_ | refine rg 17 9 ?_ | refine rg 23 16 ?_ | refine rg 35 11 ?_ | refine wS ?_ ?_ <;> intro _ | refine wB ?_ ?_)
        exact ⟨i, (i + j) / 2, ⟨by omega, by omega, by omega, by omega⟩, by omega, ⟨rfl, rfl, rfl, rfl, rfl, rfl, rfl, rfl, iv (by omega), rfl, rfl⟩, rfl, trivial⟩
    · have ei : i = r := by omega
      subst ei
      clear cm q3 q4 rr
      repeat' (first | refine stopA 39 tt ?_ | refine wG ?_ | refine rg 5 9 ?_ | refine rg 11 16 ?_ | refine rg 17 9 ?_ | refine rg 23 16 ?_ | refine rg 35 11 ?_ | refine wS ?_ ?_ <;> intro _ | refine wB ?_ ?_)
      refine stopOut ?_
      refine awp_meet1 (fun (_ : Unit) => ([(0, sO n), (1, .d (.int .i64 a)), (2, .d (.int .i64 m)), (3, .d (.int .i64 b)), (4, .d cmF), (18, .d (.int .i64 mid)), (20, .d (.int .i64 i)), (24, .d (.int .i64 ((mid : Int) + m - i)))], sB L1)) (fun _ => True) (fun _ _ => ?_) ?_
      · clear rot noR
        repeat' (first | refine stopA 41 tt ?_ | refine wG ?_ | refine rg 5 9 ?_ | refine rg 11 16 ?_ | refine rg 17 9 ?_ | refine rg 23 16 ?_ | refine rg 35 11 ?_ | refine wS ?_ ?_ <;> intro _ | refine wB ?_ ?_)
        refine stopOut ?_
        refine awp_meet1 (fun (_ : Unit) => ([(0, sO n), (2, .d (.int .i64 m)), (3, .d (.int .i64 b)), (4, .d cmF), (18, .d (.int .i64 mid)), (24, .d (.int .i64 ((mid : Int) + m - i)))], sB L2)) (fun _ => True) (fun _ _ => ?_) ?_
        · clear c1 noC
          by_cases h : i < m ∧ mid + m - i < b
          · have c2 := c2 h.1 h.2
            clear noD
            repeat' (first | refine wG ?_ | refine wD [] c2 ?_ | refine rg 5 9 ?_ | refine rg 11 16 ?_ | refine rg 17 9 ?_ | refine rg 23 16 ?_ | refine rg 35 11 ?_ | refine wS ?_ ?_ <;> intro _ | refine wB ?_ ?_)
            all_goals first | exact leVT | exact ⟨rfl, trivial⟩
          · have e := noD h
            clear noD c2
            subst e
            repeat' (first | refine wG ?_ | refine rg 5 9 ?_ | refine rg 11 16 ?_ | refine rg 17 9 ?_ | refine rg 23 16 ?_ | refine rg 35 11 ?_ | refine wS ?_ ?_ <;> intro _ | refine wB ?_ ?_)
            all_goals first | exact leVT | exact ⟨rfl, trivial⟩
        · clear c2 noD
          by_cases h : a < i ∧ i < mid
          · have c1 := c1 h.1 h.2
            clear noC
            repeat' (first | refine wG ?_ | refine wD [] c1 ?_ | refine rg 5 9 ?_ | refine rg 11 16 ?_ | refine rg 17 9 ?_ | refine rg 23 16 ?_ | refine rg 35 11 ?_ | refine wS ?_ ?_ <;> intro _ | refine wB ?_ ?_)
            all_goals exact ⟨(), trivial, ⟨rfl, rfl, rfl, rfl, rfl, rfl, rfl⟩, rfl, trivial⟩
          · have e := noC h
            clear noC c1
            subst e
            repeat' (first | refine wG ?_ | refine rg 5 9 ?_ | refine rg 11 16 ?_ | refine rg 17 9 ?_ | refine rg 23 16 ?_ | refine rg 35 11 ?_ | refine wS ?_ ?_ <;> intro _ | refine wB ?_ ?_)
            all_goals exact ⟨(), trivial, ⟨rfl, rfl, rfl, rfl, rfl, rfl, rfl⟩, rfl, trivial⟩
      · clear c1 c2 noC noD
        by_cases h : i < m ∧ i < mid
        · have rot := rot h.1 h.2
          clear noR
          repeat' (first | refine wG ?_ | refine wD [] rot ?_ | refine rg 5 9 ?_ | refine rg 11 16 ?_ | refine rg 17 9 ?_ | refine rg 23 16 ?_ | refine rg 35 11 ?_ | refine wS ?_ ?_ <;> intro _ | refine wB ?_ ?_)
          all_goals exact ⟨(), trivial, ⟨rfl, rfl, rfl, rfl, rfl, rfl, rfl, iv (by omega), rfl⟩, rfl, trivial⟩
        · have e := noR h
          clear noR rot
          subst e
          repeat' (first | refine wG ?_ | refine rg 5 9 ?_ | refine rg 11 16 ?_ | refine rg 17 9 ?_ | refine rg 23 16 ?_ | refine rg 35 11 ?_ | refine wS ?_ ?_ <;> intro _ | refine wB ?_ ?_)
          all_goals exact ⟨(), trivial, ⟨rfl, rfl, rfl, rfl, rfl, rfl, rfl, iv (by omega), rfl⟩, rfl, trivial⟩
  · clear cm q3 q4 rot c1 c2 noR noC noD
    rcases h0 with ⟨h1, rfl, rfl⟩ | ⟨h1, rfl, rfl⟩
    · repeat' (first | refine wG ?_ | refine rg 5 9 ?_ | refine rg 11 16 ?_ | refine rg 17 9 ?_ | refine rg 23 16 ?_ | refine rg 35 11 ?_ | refine wS ?_ ?_ <;> intro _ | refine wB ?_ ?_)
      exact ⟨(), trivial, ⟨rfl, rfl, rfl, rfl, rfl, iv (by omega), iv (by omega), iv (by omega), iv (by omega), rfl⟩, rfl, trivial⟩
    · repeat' (first | refine wG ?_ | refine rg 5 9 ?_ | refine rg 11 16 ?_ | refine rg 17 9 ?_ | refine rg 23 16 ?_ | refine rg 35 11 ?_ | refine wS ?_ ?_ <;> intro _ | refine wB ?_ ?_)
      exact ⟨(), trivial, ⟨rfl, rfl, rfl, rfl, rfl, iv (by omega), iv (by omega), iv (by omega), iv (by omega), rfl⟩, rfl, trivial⟩
end Go.Proofs.Ytjooknpgcjicbaa

/-
  The library's stable sort, of terms by the number of factors: merging in place, all cases. Conditions: as each says.
-/
set_option maxHeartbeats 8000000
namespace Go.Proofs.Ytjooknpgcjicbaa
open Go.Vw
attribute [local irreducible] awp awpL awpR

theorem cut_ex (P U V Q : List Nat) (hU : AscM U) (hV : AscM V) (L : List Nat) (hL : L = P ++ (U ++ (V ++ Q))) (a m b mid s0 r0 : Nat) (ha : a = P.length) (hm : m = a + U.length) (hb : b = m + V.length) (hmid : mid = (a + b) / 2) (h0 : (mid < m ∧ s0 = mid + m - b ∧ r0 = mid) ∨ (m ≤ mid ∧ s0 = a ∧ r0 = m)) : ∃ r, s0 ≤ r ∧ r ≤ r0 ∧ (∀ c, s0 ≤ c → c < r → ¬ popc (L.getD (mid + m - 1 - c) 0) < popc (L.getD c 0)) ∧ (∀ c, r ≤ c → c < r0 → popc (L.getD (mid + m - 1 - c) 0) < popc (L.getD c 0)) ∧ a ≤ r ∧ r ≤ m ∧ m ≤ mid + m - r ∧ mid + m - r ≤ b ∧ ∀ x ∈ U.take (r - a) ++ V.take (mid - r), ∀ y ∈ U.drop (r - a) ++ V.drop (mid - r), popc x ≤ popc y := by
  have gu : ∀ c, a ≤ c → c < m → L.getD c 0 = U.getD (c - a) 0 := fun c h1 h2 => by
    rw [hL]; exact get_mid P U _ (by omega) (by omega)
  have gv : ∀ c, m ≤ c → c < b → L.getD c 0 = V.getD (c - m) 0 := fun c h1 h2 => by
    have := get_mid (P ++ U) V Q (c := c - m) (i := c) (by rw [List.length_append]; omega) (by omega)
    rw [hL, ← this]; simp
  have rng : ∀ c, s0 ≤ c → c < r0 → a ≤ c ∧ c < m ∧ m ≤ mid + m - 1 - c ∧ mid + m - 1 - c < b := fun c h1 h2 => by omega
  obtain ⟨r, r1, r2, r3, r4⟩ := bound_ex (fun c => ¬ popc (L.getD (mid + m - 1 - c) 0) < popc (L.getD c 0)) s0 (r0 - s0) (fun c c' h1 h2 h3 h4 h5 => h4 (by
    intro h6
    obtain ⟨p1, p2, p3, p4⟩ := rng c h1 (by omega)
    obtain ⟨q1, q2, q3, q4⟩ := rng c' (by omega) (by omega)
    rw [gu c p1 p2, gv _ p3 p4] at h6
    rw [gu c' q1 q2, gv _ q3 q4] at h5
    have e1 := asc_get hU (show c - a ≤ c' - a by omega) (by omega)
    have e2 := asc_get hV (show mid + m - 1 - c' - m ≤ mid + m - 1 - c - m by omega) (by omega)
    have h5 := h5
    exact absurd h6 (by
      intro h7
      apply h5
      omega)))
  have r2' : r ≤ r0 := by omega
  refine ⟨r, r1, r2', r3, fun c h1 h2 => Decidable.not_not.1 (r4 c h1 (by omega)), by omega, by omega, by omega, by omega, ?_⟩
  refine merge_cut hU hV (by omega) (by omega) ?_ ?_
  · by_cases e : r = s0
    · rcases h0 with ⟨h1, h2, h3⟩ | ⟨h1, h2, h3⟩
      · exact .inr (.inl (by omega))
      · exact .inl (by omega)
    · have h1 := r3 (r - 1) (by omega) (by omega)
      obtain ⟨p1, p2, p3, p4⟩ := rng (r - 1) (by omega) (by omega)
      rw [gu _ p1 p2, gv _ p3 p4, show mid + m - 1 - (r - 1) - m = mid - r by omega, show r - 1 - a = r - a - 1 by omega] at h1
      exact .inr (.inr (by omega))
  · by_cases e : r = r0
    · rcases h0 with ⟨h1, h2, h3⟩ | ⟨h1, h2, h3⟩
      · exact .inl (by omega)
      · exact .inr (.inl (by omega))
    · have h1 := Decidable.not_not.1 (r4 r (Nat.le_refl _) (by omega))
      obtain ⟨p1, p2, p3, p4⟩ := rng r r1 (by omega)
      rw [gu _ p1 p2, gv _ p3 p4, show mid + m - 1 - r - m = mid - r - 1 by omega] at h1
      exact .inr (.inr (by omega))
theorem merge_all (n : Nat) (hb : n ≤ 1000) : ∀ (k : Nat) (P U V Q : List Nat), U.length + V.length ≤ k → U ≠ [] → V ≠ [] → P.length + U.length + V.length ≤ n → n ≤ (P ++ (U ++ (V ++ Q))).length → AscM U → AscM V → BdM 64 (P ++ (U ++ (V ++ Q))) → MgC n P U V Q
  | 0, P, U, V, Q, hk, hu, hv, _, _, _, _, _ => by
    have := List.length_pos_iff.2 hu
    omega
  | k + 1, P, U, V, Q, hk, hu, hv, hn, hl, aU, aV, bd => by
    have lu := List.length_pos_iff.2 hu
    have lv := List.length_pos_iff.2 hv
    by_cases hu1 : U.length = 1
    · obtain ⟨x, rfl⟩ := List.length_eq_one_iff.1 hu1
      exact merge_left n hb P x V Q (by omega) hl aV bd
    by_cases hv1 : V.length = 1
    · obtain ⟨y, rfl⟩ := List.length_eq_one_iff.1 hv1
      exact merge_right n hb P U y Q (by omega) (by omega) hl aU bd
    obtain ⟨L, hL⟩ : ∃ L, P ++ (U ++ (V ++ Q)) = L := ⟨_, rfl⟩
    obtain ⟨a, ha⟩ : ∃ a, a = P.length := ⟨_, rfl⟩
    obtain ⟨m, hm⟩ : ∃ m, m = a + U.length := ⟨_, rfl⟩
    obtain ⟨b, hb'⟩ : ∃ b, b = m + V.length := ⟨_, rfl⟩
    obtain ⟨mid, hmid⟩ : ∃ mid, mid = (a + b) / 2 := ⟨_, rfl⟩
    obtain ⟨s0, r0, h0⟩ : ∃ s0 r0, (mid < m ∧ s0 = mid + m - b ∧ r0 = mid) ∨ (m ≤ mid ∧ s0 = a ∧ r0 = m) := by
      by_cases h : mid < m
      · exact ⟨_, _, .inl ⟨h, rfl, rfl⟩⟩
      · exact ⟨_, _, .inr ⟨by omega, rfl, rfl⟩⟩
    obtain ⟨r, q1, q2, q3, q4, q5, q6, q7, q8, q9⟩ := cut_ex P U V Q aU aV L hL.symm a m b mid s0 r0 ha hm hb' hmid h0
    obtain ⟨U1, hU1⟩ : ∃ X, U.take (r - a) = X := ⟨_, rfl⟩
    obtain ⟨U2, hU2⟩ : ∃ X, U.drop (r - a) = X := ⟨_, rfl⟩
    obtain ⟨V1, hV1⟩ : ∃ X, V.take (mid - r) = X := ⟨_, rfl⟩
    obtain ⟨V2, hV2⟩ : ∃ X, V.drop (mid - r) = X := ⟨_, rfl⟩
    have eU : U = U1 ++ U2 := by rw [← hU1, ← hU2, List.take_append_drop]
    have eV : V = V1 ++ V2 := by rw [← hV1, ← hV2, List.take_append_drop]
    have lU1 : U1.length = r - a := by rw [← hU1, List.length_take]; omega
    have lU2 : U2.length = m - r := by rw [← hU2, List.length_drop]; omega
    have lV1 : V1.length = mid - r := by rw [← hV1, List.length_take]; omega
    have lV2 : V2.length = b - (mid + m - r) := by rw [← hV2, List.length_drop]; omega
    have aU1 : AscM U1 := hU1 ▸ asc_take aU _
    have aU2 : AscM U2 := hU2 ▸ asc_drop aU _
    have aV1 : AscM V1 := hV1 ▸ asc_take aV _
    have aV2 : AscM V2 := hV2 ▸ asc_drop aV _
    rw [hU1, hU2, hV1, hV2] at q9
    clear hU1 hU2 hV1 hV2
    -- the rotation
    obtain ⟨L1, hL1⟩ : ∃ L1, P ++ (U1 ++ (V1 ++ (U2 ++ (V2 ++ Q)))) = L1 := ⟨_, rfl⟩
    have eL : L = P ++ (U1 ++ (U2 ++ (V1 ++ (V2 ++ Q)))) := by rw [← hL, eU, eV]; simp
    have pm : L1.Perm L := by
      rw [← hL1, eL]
      refine List.Perm.append_left P (List.Perm.append_left U1 ?_)
      rw [← List.append_assoc, ← List.append_assoc U2]
      exact List.Perm.append_right _ List.perm_append_comm
    have bL : BdM 64 L := hL ▸ bd
    have b1 : BdM 64 L1 := bdM_perm pm bL
    have ll : n ≤ L.length := hL ▸ hl
    have l1 : L1.length = L.length := pm.length_eq
    have rot : r < m → r < mid → RetB Try.prog 104 [sO n, .d (.int .i64 r), .d (.int .i64 m), .d (.int .i64 ((mid : Int) + m - r)), .d cmF] (lookB (sB L)) (.tup []) (lookB (sB L1)) := fun h1 h2 => by
      have := slices_rotate n (P ++ U1) U2 V1 (V2 ++ Q) (by omega) (by omega) (by rw [List.length_append]; omega) (by rw [List.append_assoc, ← eL]; exact ll) (by omega)
      rw [List.append_assoc, ← eL, List.append_assoc, hL1, List.length_append, show P.length + U1.length = r by omega, show r + U2.length = m by omega, show ((m + V1.length : Nat) : Int) = (mid : Int) + m - r by omega] at this
      exact this
    have noR : ¬ (r < m ∧ r < mid) → L = L1 := fun h => by
      rw [eL, ← hL1]
      by_cases e : r < m
      · have : V1 = [] := List.eq_nil_of_length_eq_zero (by omega)
        rw [this]; simp
      · have : U2 = [] := List.eq_nil_of_length_eq_zero (by omega)
        rw [this]; simp
    -- the left
    obtain ⟨C1, p1, s1, c1, n1⟩ : ∃ C1, C1.Perm (U1 ++ V1) ∧ AscM C1 ∧ (a < r → r < mid → RetB Try.prog 98 [sO n, .d (.int .i64 a), .d (.int .i64 r), .d (.int .i64 mid), .d cmF] (lookB (sB L1)) (.tup []) (lookB (sB (P ++ (C1 ++ (U2 ++ (V2 ++ Q))))))) ∧ (¬ (a < r ∧ r < mid) → C1 = U1 ++ V1) := by
      by_cases h : a < r ∧ r < mid
      · obtain ⟨C, c1, c2, c3⟩ := merge_all n hb k P U1 V1 (U2 ++ (V2 ++ Q)) (by omega) (fun e => by rw [e] at lU1; simp at lU1; omega) (fun e => by rw [e] at lV1; simp at lV1; omega) (by omega) (by rw [hL1]; omega) aU1 aV1 (by rw [hL1]; exact b1)
        refine ⟨C, c1, c2, fun _ _ => ?_, fun h' => absurd h h'⟩
        rw [hL1, show P.length + U1.length = r by omega, show r + V1.length = mid by omega, ← ha] at c3
        exact c3
      · refine ⟨U1 ++ V1, List.Perm.refl _, ?_, fun h1 h2 => absurd ⟨h1, h2⟩ h, fun _ => rfl⟩
        by_cases e : a < r
        · have : V1 = [] := List.eq_nil_of_length_eq_zero (by omega)
          rw [this, List.append_nil]; exact aU1
        · have : U1 = [] := List.eq_nil_of_length_eq_zero (by omega)
          rw [this]; exact aV1
    obtain ⟨L2, hL2⟩ : ∃ L2, P ++ (C1 ++ (U2 ++ (V2 ++ Q))) = L2 := ⟨_, rfl⟩
    have pm2 : L2.Perm L1 := by
      rw [← hL1, ← hL2]
      refine List.Perm.append_left P ?_
      rw [← List.append_assoc U1]
      exact List.Perm.append_right _ p1
    have b2 : BdM 64 L2 := bdM_perm pm2 b1
    have l2 : L2.length = L1.length := pm2.length_eq
    have lC1 : C1.length = mid - a := by rw [p1.length_eq, List.length_append]; omega
    rw [hL2] at c1
    have noC : ¬ (a < r ∧ r < mid) → L1 = L2 := fun h => by rw [← hL1, ← hL2, n1 h]; simp
    -- the right
    obtain ⟨C2, p2, s2, c2, n2⟩ : ∃ C2, C2.Perm (U2 ++ V2) ∧ AscM C2 ∧ (r < m → mid + m - r < b → RetB Try.prog 98 [sO n, .d (.int .i64 mid), .d (.int .i64 ((mid : Int) + m - r)), .d (.int .i64 b), .d cmF] (lookB (sB L2)) (.tup []) (lookB (sB (P ++ ((C1 ++ C2) ++ Q))))) ∧ (¬ (r < m ∧ mid + m - r < b) → C2 = U2 ++ V2) := by
      by_cases h : r < m ∧ mid + m - r < b
      · obtain ⟨C, c1, c2, c3⟩ := merge_all n hb k (P ++ C1) U2 V2 Q (by omega) (fun e => by rw [e] at lU2; simp at lU2; omega) (fun e => by rw [e] at lV2; simp at lV2; omega) (by rw [List.length_append]; omega) (by rw [List.append_assoc, hL2]; omega) aU2 aV2 (by rw [List.append_assoc, hL2]; exact b2)
        refine ⟨C, c1, c2, fun _ _ => ?_, fun h' => absurd h h'⟩
        rw [List.append_assoc, hL2, List.length_append, show P.length + C1.length = mid by omega, show ((mid + U2.length : Nat) : Int) = (mid : Int) + m - r by omega, show mid + U2.length + V2.length = b by omega, List.append_assoc, ← List.append_assoc C1] at c3
        exact c3
      · refine ⟨U2 ++ V2, List.Perm.refl _, ?_, fun h1 h2 => absurd ⟨h1, h2⟩ h, fun _ => rfl⟩
        by_cases e : r < m
        · have : V2 = [] := List.eq_nil_of_length_eq_zero (by omega)
          rw [this, List.append_nil]; exact aU2
        · have : U2 = [] := List.eq_nil_of_length_eq_zero (by omega)
          rw [this]; exact aV2
    obtain ⟨LE, hLE⟩ : ∃ LE, P ++ ((C1 ++ C2) ++ Q) = LE := ⟨_, rfl⟩
    have noD : ¬ (r < m ∧ mid + m - r < b) → L2 = LE := fun h => by rw [← hLE, ← hL2, n2 h]; simp
    have lE : LE.length = L2.length := by
      rw [← hLE, ← hL2]; simp only [List.length_append, p2.length_eq]; omega
    refine ⟨C1 ++ C2, ?_, asc_app s1 s2 fun x hx y hy => q9 x (p1.mem_iff.1 hx) y (p2.mem_iff.1 hy), ?_⟩
    · refine (List.Perm.append p1 p2).trans ?_
      rw [eU, eV, List.append_assoc, List.append_assoc]
      refine List.Perm.append_left U1 ?_
      rw [← List.append_assoc, ← List.append_assoc U2]
      exact List.Perm.append_right _ List.perm_append_comm
    rw [hLE] at c2 ⊢
    rw [hL, ← ha, ← hm, ← hb']
    exact merge_walk n a m b mid s0 r0 r L L1 L2 LE hb (by omega) (by omega) (by omega) hmid h0 q1 q2 q3 q4 q5 q6 q7 q8 bL ll l1 l2 lE rot noR c1 noC c2 noD
end Go.Proofs.Ytjooknpgcjicbaa

/-
  The library's stable sort, of terms by the number of factors. Conditions: less than 40 terms.
-/
set_option maxHeartbeats 8000000
namespace Go.Proofs.Ytjooknpgcjicbaa
open Go.Vw
attribute [local irreducible] awp awpL awpR

theorem stable_small (n : Nat) (S Q : List Nat) (hn : n = S.length) (h20 : n < 20) (bd : BdM 64 (S ++ Q)) : RetB Try.prog 65 [sO n, .d (.int .i64 n), .d cmF] (lookB (sB (S ++ Q))) (.tup []) (lookB (sB (isortM S ++ Q))) := by
  have ins := slices_insert n [] S Q (by simp; omega) (by simp; omega) (by omega) bd
  rw [List.nil_append, List.nil_append, List.length_nil, Nat.zero_add, ← hn] at ins
  have hl : (isortM S ++ Q).length = (S ++ Q).length := by simp [isortM_len]
  generalize S ++ Q = L at *
  generalize isortM S ++ Q = L1 at *
  refine retB_of_awp tab [500] Try.func65 rfl rfl rfl (Nat.le_of_ble_eq_true rfl) rfl ⟨by show L.length ≤ L1.length; omega, trivial⟩ (fun w0 F0 A io0 => ?_)
  repeat' (first | refine wG ?_ | refine wS ?_ ?_ <;> intro _ | refine wB ?_ ?_)
  refine awp_loop1 (fun (_ : Unit) => ([(0, sO n), (1, .d (.int .i64 n)), (2, .d cmF), (6, .d (.int .i64 20)), (7, .d (.int .i64 0)), (8, .d (.int .i64 20))], sB L)) (fun _ => True) (fun _ => 0) () trivial ⟨rfl, rfl, rfl, rfl, rfl, rfl, rfl⟩ ⟨rfl, trivial⟩ (fun _ _ => ?_)
  repeat' (first | refine wG ?_ | refine wD [] ins ?_ | refine wS ?_ ?_ <;> intro _ | refine wB ?_ ?_)
  refine awp_loop1 (fun (_ : Unit) => ([(0, sO n), (1, .d (.int .i64 n)), (2, .d cmF), (6, .d (.int .i64 20)), (7, .d (.int .i64 0)), (8, .d (.int .i64 20))], sB L1)) (fun _ => True) (fun _ => 0) () trivial ⟨rfl, rfl, rfl, rfl, rfl, rfl, rfl⟩ ⟨rfl, trivial⟩ (fun _ _ => ?_)
  repeat' (first | refine wG ?_ | refine wS ?_ ?_ <;> intro _ | refine wB ?_ ?_)
  all_goals first | exact leVT | exact ⟨rfl, trivial⟩
theorem stable_big (n : Nat) (S1 S2 Q C : List Nat) (h1 : S1.length = 20) (hn : n = 20 + S2.length) (h40 : n < 40) (bd : BdM 64 (S1 ++ (S2 ++ Q))) (hC : C.length = n) (mg : 20 < n → RetB Try.prog 98 [sO n, .d (.int .i64 0), .d (.int .i64 20), .d (.int .i64 n), .d cmF] (lookB (sB (isortM S1 ++ (isortM S2 ++ Q)))) (.tup []) (lookB (sB (C ++ Q)))) (nomg : ¬ 20 < n → C ++ Q = isortM S1 ++ (isortM S2 ++ Q)) : RetB Try.prog 65 [sO n, .d (.int .i64 n), .d cmF] (lookB (sB (S1 ++ (S2 ++ Q)))) (.tup []) (lookB (sB (C ++ Q))) := by
  have i1 := slices_insert n [] S1 (S2 ++ Q) (by simp; omega) (by simp; omega) (by omega) bd
  rw [List.nil_append, List.nil_append, List.length_nil, Nat.zero_add, h1] at i1
  have b2 : BdM 64 (isortM S1 ++ (S2 ++ Q)) := fun t ht => bd t (by
    rcases List.mem_append.1 ht with h | h
    · exact List.mem_append.2 (.inl ((isortM_spec S1).1.mem_iff.1 h))
    · exact List.mem_append.2 (.inr h))
  have i2 := slices_insert n (isortM S1) S2 Q (by rw [isortM_len]; omega) (by simp [isortM_len]; omega) (by omega) b2
  rw [isortM_len, h1, ← hn] at i2
  have l1 : (S1 ++ (S2 ++ Q)).length = n + Q.length := by simp; omega
  have l2 : (isortM S1 ++ (S2 ++ Q)).length = n + Q.length := by simp [isortM_len]; omega
  have l3 : (isortM S1 ++ (isortM S2 ++ Q)).length = n + Q.length := by simp [isortM_len]; omega
  have l4 : (C ++ Q).length = n + Q.length := by simp; omega
  generalize S1 ++ (S2 ++ Q) = L at *
  generalize isortM S1 ++ (S2 ++ Q) = L1 at *
  generalize isortM S1 ++ (isortM S2 ++ Q) = L2 at *
  generalize C ++ Q = L3 at *
  refine retB_of_awp tab [500] Try.func65 rfl rfl rfl (Nat.le_of_ble_eq_true rfl) rfl ⟨by show L.length ≤ L3.length; omega, trivial⟩ (fun w0 F0 A io0 => ?_)
  repeat' (first | refine wG ?_ | refine wS ?_ ?_ <;> intro _ | refine wB ?_ ?_)
  refine awp_loop3 (fun (W : List Nat) (a b : Int) => ([(0, sO n), (1, .d (.int .i64 n)), (2, .d cmF), (6, .d (.int .i64 20)), (7, .d (.int .i64 a)), (8, .d (.int .i64 b))], sB W)) (fun W a b => (a = 0 ∧ b = 20 ∧ W = L) ∨ (a = 20 ∧ b = 40 ∧ W = L1)) (fun W a b => (40 - b).toNat) L 0 20 (.inl ⟨rfl, rfl, rfl⟩) ⟨rfl, rfl, rfl, rfl, rfl, rfl, rfl⟩ ⟨rfl, trivial⟩ (fun W a b hI => ?_)
  rcases hI with ⟨rfl, rfl, rfl⟩ | ⟨rfl, rfl, rfl⟩
  · clear i2 mg nomg
    repeat' (first | refine wG ?_ | refine wD [] i1 ?_ | refine wS ?_ ?_ <;> intro _ | refine wB ?_ ?_)
    exact ⟨L1, 20, 40, .inr ⟨rfl, rfl, rfl⟩, by decide, ⟨rfl, rfl, rfl, rfl, rfl, rfl, rfl⟩, rfl, trivial⟩
  · repeat' (first | refine wG ?_ | refine wD [] i2 ?_ | refine wS ?_ ?_ <;> intro _ | refine wB ?_ ?_)
    refine awp_loop2 (fun (W : List Nat) (z : Int) => ([(0, sO n), (1, .d (.int .i64 n)), (2, .d cmF), (6, .d (.int .i64 z))], sB W)) (fun W z => (z = 20 ∧ W = L2) ∨ (z = 40 ∧ W = L3)) (fun W z => (40 - z).toNat) L2 20 (.inl ⟨rfl, rfl⟩) ⟨rfl, rfl, rfl, rfl, rfl⟩ ⟨rfl, trivial⟩ (fun W z hk => ?_)
    rcases hk with ⟨rfl, rfl⟩ | ⟨rfl, rfl⟩
    · by_cases h : 20 < n
      · have mg := mg h
        clear i1 i2 nomg
        repeat' (first | refine wG ?_ | refine wS ?_ ?_ <;> intro _ | refine wB ?_ ?_)
        refine awp_loop1 (fun (_ : Unit) => ([(0, sO n), (1, .d (.int .i64 n)), (2, .d cmF), (6, .d (.int .i64 20)), (7, .d (.int .i64 0)), (8, .d (.int .i64 40))], sB W)) (fun _ => True) (fun _ => 0) () trivial ⟨rfl, rfl, rfl, rfl, rfl, rfl, rfl⟩ ⟨rfl, trivial⟩ (fun _ _ => ?_)
        repeat' (first | refine wG ?_ | refine wD [] mg ?_ | refine wS ?_ ?_ <;> intro _ | refine wB ?_ ?_)
        exact ⟨L3, 40, .inr ⟨rfl, rfl⟩, by decide, ⟨rfl, rfl, rfl, rfl, rfl⟩, rfl, trivial⟩
      · have e := nomg h
        clear i1 i2 mg nomg
        subst e
        repeat' (first | refine wG ?_ | refine wS ?_ ?_ <;> intro _ | refine wB ?_ ?_)
        all_goals first | exact leVT | exact ⟨rfl, trivial⟩
    · clear i1 i2 mg nomg
      repeat' (first | refine wG ?_ | refine wS ?_ ?_ <;> intro _ | refine wB ?_ ?_)
      all_goals first | exact leVT | exact ⟨rfl, trivial⟩
theorem slices_sort (n : Nat) (L : List Nat) (hn : n ≤ L.length) (h40 : n < 40) (bd : BdM 64 L) : ∃ C, C.Perm (L.take n) ∧ AscM C ∧ RetB Try.prog 29 [sO n, .d cmF] (lookB (sB L)) (.tup []) (lookB (sB (C ++ L.drop n))) := by
  have st : ∃ C, C.Perm (L.take n) ∧ AscM C ∧ RetB Try.prog 65 [sO n, .d (.int .i64 n), .d cmF] (lookB (sB L)) (.tup []) (lookB (sB (C ++ L.drop n))) := by
    by_cases h : n < 20
    · refine ⟨isortM (L.take n), (isortM_spec _).1, (isortM_spec _).2, ?_⟩
      have := stable_small n (L.take n) (L.drop n) (by rw [List.length_take]; omega) h (by rw [List.take_append_drop]; exact bd)
      rwa [List.take_append_drop] at this
    · obtain ⟨S1, hS1⟩ : ∃ X, (L.take n).take 20 = X := ⟨_, rfl⟩
      obtain ⟨S2, hS2⟩ : ∃ X, (L.take n).drop 20 = X := ⟨_, rfl⟩
      have e1 : L.take n = S1 ++ S2 := by rw [← hS1, ← hS2, List.take_append_drop]
      have e2 : L = S1 ++ (S2 ++ L.drop n) := by rw [← List.append_assoc, ← e1, List.take_append_drop]
      have l1 : S1.length = 20 := by rw [← hS1, List.length_take, List.length_take]; omega
      have l2 : S2.length = n - 20 := by rw [← hS2, List.length_drop, List.length_take]; omega
      clear hS1 hS2
      rw [e1]
      generalize L.drop n = Q at *
      subst e2
      obtain ⟨p1, a1⟩ := isortM_spec S1
      obtain ⟨p2, a2⟩ := isortM_spec S2
      by_cases g : 20 < n
      · obtain ⟨C, c1, c2, c3⟩ := merge_all n (by omega) (S1.length + S2.length) [] (isortM S1) (isortM S2) Q (by rw [isortM_len, isortM_len]; exact Nat.le_refl _) (fun e => by have := isortM_len S1; rw [e] at this; simp at this; omega) (fun e => by have := isortM_len S2; rw [e] at this; simp at this; omega) (by rw [isortM_len, isortM_len]; simp; omega) (by simp [isortM_len]; omega) a1 a2 (fun t ht => bd t (by
          rw [List.nil_append, List.mem_append, List.mem_append] at ht
          rw [List.mem_append, List.mem_append]
          rcases ht with h | h | h
          · exact .inl (p1.mem_iff.1 h)
          · exact .inr (.inl (p2.mem_iff.1 h))
          · exact .inr (.inr h)))
        rw [isortM_len, isortM_len, List.length_nil, Nat.zero_add, l1, show 20 + S2.length = n by omega, List.nil_append, List.nil_append] at c3
        refine ⟨C, c1.trans (List.Perm.append p1 p2), c2, stable_big n S1 S2 Q C l1 (by omega) h40 bd (by rw [c1.length_eq, List.length_append, isortM_len, isortM_len]; omega) (fun _ => c3) (fun h => absurd g h)⟩
      · have e : S2 = [] := List.eq_nil_of_length_eq_zero (by omega)
        subst e
        refine ⟨isortM S1, by rw [List.append_nil]; exact p1, a1, stable_big n S1 [] Q (isortM S1) l1 (by simp; omega) h40 bd (by rw [isortM_len]; omega) (fun h => absurd h g) (fun _ => rfl)⟩
  obtain ⟨C, c1, c2, c3⟩ := st
  have hl : (C ++ L.drop n).length = L.length := by rw [List.length_append, c1.length_eq, List.length_take, List.length_drop]; omega
  refine ⟨C, c1, c2, ?_⟩
  clear c1 c2
  generalize C ++ L.drop n = L1 at *
  refine retB_of_awp tab [500] Try.func29 rfl rfl rfl (Nat.le_of_ble_eq_true rfl) rfl ⟨by show L.length ≤ L1.length; omega, trivial⟩ (fun w0 F0 A io0 => ?_)
  repeat' (first | refine wG ?_ | refine wD [] c3 ?_ | refine wS ?_ ?_ <;> intro _ | refine wB ?_ ?_)
  all_goals first | exact leVT | exact ⟨rfl, trivial⟩
end Go.Proofs.Ytjooknpgcjicbaa

/-
  Loops and slots where defers are pending; a contract of lent blocks as one of data. Conditions: as each rule says.
-/
namespace Go.Vw
open Go.RowKit
def St.ofD (ts : List (Nat × V)) (bs : List (Nat × Blk)) (ds : List (FuncId × List V)) : St := { tmps := lookT ts, blk := lookB bs, dfs := ds }
def AllTd (s : St) (ds : List (FuncId × List V)) : List (Nat × V) → Prop
  | [] => s.dfs = ds
  | (k, v) :: r => s.tmps k = v ∧ AllTd s ds r
theorem allTd_dfs {s : St} {ds : List (FuncId × List V)} : ∀ {l : List (Nat × V)}, AllTd s ds l → s.dfs = ds
  | [], h => h
  | _ :: _, h => allTd_dfs h.2
theorem lookT_ofD {s : St} {ds : List (FuncId × List V)} : ∀ {ts : List (Nat × V)}, AllTd s ds ts → ∀ t, (lookT ts t = s.tmps t ∧ ∃ p ∈ ts, p.2 = lookT ts t) ∨ lookT ts t = .d .undef
  | [], _, t => .inr rfl
  | (k, v) :: r, h, t => by
    simp only [lookT]
    cases hb : Nat.beq t k with
    | true =>
      have := Nat.eq_of_beq_eq_true hb
      subst this
      exact .inl ⟨h.1.symm, (t, v), by simp, rfl⟩
    | false =>
      rcases lookT_ofD h.2 t with ⟨e, p, hp, q⟩ | e
      · exact .inl ⟨e, p, List.mem_cons_of_mem _ hp, q⟩
      · exact .inr e
def coverDf (bs : List (Nat × Blk)) : List (FuncId × List V) → Bool
  | [] => true
  | (_, cs) :: r => keysOk bs (V.keysL cs) && coverDf bs r
theorem DfR.restrict {io : Nat → Option Nat} {ln ln' : Nat → Nat} {F : Nat → Prop} {w : World} {bs : List (Nat × Blk)} (hl : ∀ k, hasKey bs k = true → ln k ≤ ln' k) : ∀ (ds : List (FuncId × List V)) (l : List Deferred), coverDf bs ds = true → DfR ⟨io, ln⟩ F w ds l → DfR ⟨io, ln'⟩ F w ds l
  | [], _, _, h => h
  | (f, cs) :: r, l, hc, ⟨arr, rest, e, hn, h, h'⟩ => by
    simp only [coverDf, Bool.and_eq_true] at hc
    exact ⟨arr, rest, e, hn, VRA.restrict (ln := ln) _ _ _ (fun k hk => hl k (keysOk_spec hc.1 k hk)) h, DfR.restrict hl r _ hc.2 h'⟩
theorem SR.slotsD {X : Ctx} {io : Nat → Option Nat} {F : Nat → Prop} {s : St} {a : Act} {w : World} (hs : SR X io F s a w) {ts : List (Nat × V)} {bs : List (Nat × Blk)} {ds : List (FuncId × List V)} (ht : AllTd s ds ts) (hb : AllB s bs) (hc : (coverT bs ts && coverB bs bs && coverDf bs ds) = true) : SR X io F (St.ofD ts bs ds) a w := by
  have hd := allTd_dfs ht
  simp only [Bool.and_eq_true] at hc
  have hl : ∀ k, hasKey bs k = true → s.ln k ≤ (St.ofD ts bs ds).ln k := fun k hk => by
    unfold hasKey at hk
    split at hk
    · rename_i b hb'
      obtain ⟨h1, _⟩ := lookB_of hb k b hb'
      rw [ln_of h1, ln_of (s := St.ofD ts bs ds) (b := b) hb']; exact Nat.le_refl _
    · cases hk
  refine ⟨hs.kept, fun t => ?_, hs.nt, ?_, fun k b hk => ?_, fun k k' b h1 h2 => ?_, hs.ff, hs.f0, hs.st⟩
  · rcases lookT_ofD ht t with ⟨h1, p, h2, h3⟩ | h1
    · show VR _ F w (lookT ts t) _
      rw [h1]
      refine VR.restrict (ln := s.ln) _ _ (fun k hk => hl k ?_) (hs.tm t)
      rw [← h1, ← h3] at hk
      exact coverT_spec hc.1.1 p h2 k hk
    · show VR _ F w (lookT ts t) _
      rw [h1]; exact VR.undef _
  · have := hs.df
    rw [hd] at this
    exact DfR.restrict (ln := s.ln) hl ds _ hc.2 this
  · obtain ⟨h1, p, h2, h3⟩ := lookB_of hb k b hk
    have := hs.bl k b h1
    cases b with
    | data ty sz e z l => exact this
    | box ty cells =>
      simp only [BR] at this ⊢
      obtain ⟨b, arr, g1, g2, g3, g4, g5⟩ := this
      exact ⟨b, arr, g1, g2, g3, g4, VRA.restrict (ln := s.ln) _ _ _ (fun k' hk' => hl k' (coverB_spec hc.1.2 p h2 ty cells (by rw [h3]) k' hk')) g5⟩
    | hole ty sz e z l i v =>
      simp only [BR] at this ⊢
      obtain ⟨b, arr, g1, g2, g3, g4, g5⟩ := this
      obtain ⟨q0, q1, u, q2, q2', q3⟩ := g5
      exact ⟨b, arr, g1, g2, g3, g4, q0, q1, u, q2, q2', VR.restrict (ln := s.ln) _ _ (fun k' hk' => hl k' (coverH_spec hc.1.2 p h2 ty sz _ e z l i v (by rw [h3]) k' hk')) q3⟩
  · obtain ⟨b1, e1⟩ := Option.ne_none_iff_exists'.1 h1
    obtain ⟨b2, e2⟩ := Option.ne_none_iff_exists'.1 h2
    exact hs.inj k k' b (by rw [(lookB_of hb k b1 e1).1]; simp) (by rw [(lookB_of hb k' b2 e2).1]; simp)
theorem awp_slotsD {X : Ctx} {c : Code} {Q : Exit → St → Prop} {s : St} (ts : List (Nat × V)) (bs : List (Nat × Blk)) (ds : List (FuncId × List V)) (ht : AllTd s ds ts) (hb : AllB s bs) (h : awp X c Q (St.ofD ts bs ds)) (hc : (coverT bs ts && coverB bs bs && coverDf bs ds) = true := by rfl) : awp X c Q s :=
  fun io F a w hs => h io F a w (hs.slotsD ht hb hc)
theorem awp_loopD {α : Type} {X : Ctx} {c : Code} {Q : Exit → St → Prop} {s : St} (ds : List (FuncId × List V)) (st : α → List (Nat × V) × List (Nat × Blk)) (I : α → Prop) (mu : α → Nat) (x0 : α) (h0 : I x0) (ht : AllTd s ds (st x0).1) (hb : AllB s (st x0).2)
    (round : ∀ x, I x → awp X c (andThen (fun s' => ∃ y, I y ∧ mu y < mu x ∧ AllTd s' ds (st y).1 ∧ AllB s' (st y).2) Q) (St.ofD (st x).1 (st x).2 ds)) (hc : ∀ x, (coverT (st x).2 (st x).1 && coverB (st x).2 (st x).2 && coverDf (st x).2 ds) = true) : awp X (.loop c) Q s := by
  intro io F a w hs b k cs
  have key : ∀ n x io F a w, mu x = n → I x → SR X io F (St.ofD (st x).1 (st x).2 ds) a w → ∃ e a' w', lift X Q e a' w' ∧ Arrives X.P (lone (b.at a (.code c :: .inLoop c :: k)) cs w) b k cs e a' w' := by
    intro n
    induction n using Nat.strongRecOn with
    | _ n ih =>
      intro x io F a w hn hI hs
      obtain ⟨e, a₁, w₁, hq, harr⟩ := round x hI io F a w hs b (.inLoop c :: k) cs
      obtain ⟨s₁, io₁, F₁, hq, hs₁⟩ := hq
      cases e with
      | normal =>
        obtain ⟨y, hI₁, hlt, hty, hby⟩ := hq
        obtain ⟨e₂, a₂, w₂, hq₂, harr₂⟩ := ih (mu y) (hn ▸ hlt) y io₁ F₁ a₁ w₁ rfl hI₁ (hs₁.slotsD hty hby (hc y))
        exact ⟨e₂, a₂, w₂, hq₂, .of_steps (Steps.trans harr (.one step_inLoop)) harr₂⟩
      | exit id => exact ⟨_, a₁, w₁, ⟨s₁, io₁, F₁, hq, hs₁⟩, .pass (x := .inLoop c) rfl (fun _ _ => .inl (by simp)) harr⟩
      | goto l => exact ⟨_, a₁, w₁, ⟨s₁, io₁, F₁, hq, hs₁⟩, .pass (x := .inLoop c) rfl (fun _ _ => .inl (by simp)) harr⟩
      | ret => exact ⟨_, a₁, w₁, ⟨s₁, io₁, F₁, hq, hs₁⟩, .pass (x := .inLoop c) rfl (fun _ _ => .inl (by simp)) harr⟩
      | panic ch => exact ⟨_, a₁, w₁, ⟨s₁, io₁, F₁, hq, hs₁⟩, .pass (x := .inLoop c) rfl (fun _ _ => .inl (by simp)) harr⟩
      | outgrown => exact ⟨_, a₁, w₁, ⟨s₁, io₁, F₁, hq, hs₁⟩, .pass (x := .inLoop c) rfl (fun _ _ => .inl (by simp)) harr⟩
  obtain ⟨e, a', w', hq, harr⟩ := key _ x0 io F a w rfl h0 (hs.slotsD ht hb (hc x0))
  exact ⟨e, a', w', hq, .of_steps (.one step_loop) harr⟩
theorem RetL.toRet {P : Program} {f : FuncId} {ds : List D} {y : D} (h : RetL P f (ds.map V.d) (lookB []) y) : Ret P f ds (· = y) := by
  refine ⟨h.enters, fun F w vs hF hl hv => ?_⟩
  have hno : ∀ (io : Nat → Option Nat) b, ¬ OwnA (lookB []) io b := fun io b ⟨k, hk, _⟩ => hk rfl
  refine (h.run (fun _ => none) F w vs hF (by simpa using hl) (drt_toV hv) ⟨fun k b hk => (by cases hk), fun k k' b e1 => absurd rfl e1⟩).mono fun e w' hq => ?_
  obtain ⟨v, F', he, g1, g2, g3, g4⟩ := hq
  refine ⟨v, y, F', he, rfl, ⟨g1.os, g1.tape, g1.output, g1.size, fun b hb => g1.block b hb (hno _ b)⟩, g2, fun b hb => ?_, g4⟩
  obtain ⟨h2, h3⟩ := g3 b hb
  rcases h3 with h3 | h3 | h3
  · exact .inl h3
  · exact .inr ⟨h3, h2⟩
  · exact absurd h3 (hno _ b)
def adL (k : Nat) (ty : TypeId) (sz : Nat) : Nat → List D → Option (List V)
  | 0, .nils :: r => some (.own k 0 0 ty sz :: r.map V.d)
  | n + 1, c :: r => match adL k ty sz n r with | some q => some (.d c :: q) | none => none
  | _, _ => none
theorem adL_sound {io : Keys} {F : Nat → Prop} {w : World} {g : Nat → Option Value} {k : Nat} {ty : TypeId} {sz : Nat} (hk : io.io k = none) : ∀ (n : Nat) (ds : List D) (cs : List V) (off : Nat), adL k ty sz n ds = some cs → DRA F w g off ds → VRA io F w g off cs
  | 0, [], cs, off, h, _ => by simp [adL] at h
  | 0, d :: r, cs, off, h, hd => by
    cases d with
    | nils =>
      simp only [adL, Option.some.injEq] at h
      subst h
      simp only [DRA] at hd
      obtain ⟨⟨v, e, h0, h1⟩, h2⟩ := hd
      simp only [VRA]
      simp only [DR] at h1
      refine ⟨⟨v, e, h0, ?_⟩, DRA.toV h2⟩
      simp only [VR]
      exact .inl ⟨hk, h1, trivial, trivial⟩
    | _ => simp [adL] at h
  | n + 1, [], cs, off, h, _ => by simp [adL] at h
  | n + 1, c :: r, cs, off, h, hd => by
    simp only [adL] at h
    split at h
    · rename_i q hq
      cases h
      simp only [DRA] at hd
      simp only [VRA, VR]
      exact ⟨hd.1, adL_sound hk n r q _ hq hd.2⟩
    · cases h
theorem awp_adoptB {X : Ctx} {c : Code} {Q : Exit → St → Prop} {s : St} (kb i k : Nat) (ty : TypeId) (sz : Nat) {α : Type} (e : α → List D) (z : α) {tb : TypeId} {cs cs' : List V} {ds : List D} (hb : (s.new k (.data ty sz e z [])).blk kb = some (.box tb cs)) (hd : allD cs = some ds) (ha : adL k ty sz i ds = some cs') (h : awp X c Q ((s.new k (.data ty sz e z [])).withBlk kb (.box tb cs'))) (hK : X.K.contains k = false := by rfl) : awp X c Q s := fun io F a w hs => by
  have hs0 : SR X (updio io k none) F (s.new k (.data ty sz e z [])) a w := SR.setBlk (hs.kill k none (notMem hK)) (by rw [sub_ln_same]; exact Nat.zero_le _) (by simp only [BR]; exact .inl ⟨updio_same _ _ _, trivial⟩) fun j c _ _ _ h => by rw [updio_same] at h; cases h
  have hbr := hs0.bl kb _ hb
  simp only [BR] at hbr
  obtain ⟨b, arr, h1, h2, h3, h4, h5⟩ := hbr
  refine h (updio io k none) F a w (hs0.setBlk (by rw [ln_of hb]; simp [Blk.ln]) ?_ fun j c hj hb' e1 e2 => hj (hs0.inj j kb c hb' (by rw [hb]; simp) e1 e2))
  simp only [BR]
  exact ⟨b, arr, h1, h2, h3, h4, adL_sound (updio_same _ _ _) i ds cs' _ ha (VRA.ofD hd h5)⟩
end Go.Vw

/-
  Models of formulas, by the program. Conditions: as each says.
-/
set_option maxHeartbeats 8000000
namespace Go.Proofs.Ytjooknpgcjicbaa
open Go.Vw
attribute [local irreducible] awp awpL awpR

abbrev erT : TypeId := 30
abbrev eB (a b c d : D) : List (Nat × Blk) := [(0, .box mdT [.d a, .d b, .d c]), (1, .box erT [.d d])]
theorem Expand_nil (a b c d : D) : DefC Try.prog 25 [.ptr 0 0, .ptr 1 0] (eB a b c d) .returning .returning (eB a b c d) := by
  refine defC_of_awp tab [0, 1] Try.func25 rfl rfl rfl rfl rfl rfl (.nil) rfl (Nat.le_of_ble_eq_true rfl) rfl (⟨Nat.le_refl _, Nat.le_refl _, trivial⟩) (fun w0 F0 A io0 => ?_)
  repeat' (first | refine wG ?_ | refine wI ?_ | refine wR ?_ | refine wS ?_ ?_ <;> intro _ | refine wB ?_ ?_ | refine wF ?_)
  all_goals first | exact leVT | exact ⟨rfl, rfl, trivial⟩
theorem Expand_got (a b c d : D) : DefC Try.prog 25 [.ptr 0 0, .ptr 1 0] (eB a b c d) (.panicking (thrown limV)) (.panicking [{ v := limV, recovered := true }]) (eB (.str []) (.bool false) .nils (.int .i64 2)) := by
  refine defC_of_awp tab [0, 1] Try.func25 rfl rfl rfl rfl rfl rfl (.got (x := .agg []) rfl) rfl (Nat.le_of_ble_eq_true rfl) rfl (⟨Nat.le_refl _, Nat.le_refl _, trivial⟩) (fun w0 F0 A io0 => ?_)
  repeat' (first | refine wG ?_ | refine wI ?_ | refine wR ?_ | refine wS ?_ ?_ <;> intro _ | refine wB ?_ ?_ | refine wF ?_)
  all_goals first | exact leVT | exact ⟨rfl, rfl, trivial⟩
theorem terms_ExpandLim (s : List UInt8) (e : List Nd) (T : Ft) (hl : e.length ≤ 900) (h : vld s e = true) (hT : T.flat = e) (hok : T.ok) (hal : (addT [] T).length ≤ 64) (hm : mdM (addT [] T) [0] T = none) : Ret Try.prog 11 [fmD s e] (· = .tup [mdD [] false [], .int .i64 2]) := by
  have v := formula_Valid s e (by omega)
  rw [h] at v
  have m := terms_model e (addT [] T) hal [0] ⟨by decide, fun t ht => by simp at ht; subst ht; exact Nat.two_pow_pos _⟩ T hok [] [] (by rw [hT]; simp; omega) (List.prefix_refl _)
  unfold MdC at m
  rw [hm, List.append_nil, hT] at m
  have m : PanB Try.prog 26 [.ptr 17 0, .d (tsD [0]), .d (ndsD e)] (lookB (xB e [])) limV := m
  clear hm hal hok hT
  refine RetL.toRet (ds := [fmD s e]) ?_
  show RetL _ _ [.d (fmD s e)] _ _
  refine retL_of_awpD tab [] Try.func11 rfl rfl (Nat.le_of_ble_eq_true rfl) (fun w0 F0 A io0 => ?_)
  repeat' (first | refine stopA 3 tt ?_ | refine wX ?_ | refine wE ?_ | refine wG ?_ | refine wC v ?_ | refine rg 6 4 ?_ | refine rg 12 6 ?_ | refine wR ?_ | refine wS ?_ ?_ <;> intro _)
  refine stopOut ?_
  refine awp_rename [(1, .ptr 1 0), (2, .ptr 2 0), (3, .ptr 3 0)] [(1, .box 24 [.d (.str s), .d (ndsD e)]), (2, .box mdT [.d (.str []), .d (.bool false), .d .nils]), (3, .box erT [.d (.int .i64 0)])] [(2, 0), (3, 1)] ⟨rfl, rfl, rfl, rfl⟩ ⟨rfl, rfl, rfl, trivial⟩ ?_
  repeat' (first | refine stopA 5 tt ?_ | refine wX ?_ | refine wE ?_ | refine wG ?_ | refine rg 6 4 ?_ | refine rg 12 6 ?_ | refine wR ?_ | refine wS ?_ ?_ <;> intro _)
  refine stopOut ?_
  refine awp_adoptB 17 1 601 fcT 2 fcC fc0 rfl rfl rfl ?_
  repeat' (first | refine wX ?_ | refine wE ?_ | refine wG ?_ | refine wP m ?_ | refine rg 6 4 ?_ | refine rg 12 6 ?_ | refine wR ?_ | refine wS ?_ ?_ <;> intro _)
  exact ⟨_, _, _, _, _, _, _, rfl, rfl, rfl, Expand_got _ _ _ _, ⟨rfl, rfl, trivial⟩, rfl, ⟨_, rfl, rfl⟩, .inr ⟨by simp, _, rfl, leT⟩⟩
theorem ptrEq {x : D} {a b : List Fc} (h : a = b) : V.d (.ptr [x, fsD a] 0) = V.d (.ptr [x, fsD b] 0) := by rw [h]
theorem rwEq {T T' : List (List Fc)} (h : T = T') : some (Blk.data 34 1 rwC [] T) = some (Blk.data 34 1 rwC [] T') := by rw [h]
theorem terms_ExpandOk (s : List UInt8) (e : List Nd) (T : Ft) (hl : e.length ≤ 900) (h : vld s e = true) (hT : T.flat = e) (hok : T.ok) (hal : (addT [] T).length ≤ 64) (l : List Nat) (hm : mdM (addT [] T) [0] T = some l) : ∃ C, C.Perm (minusM l [0]) ∧ AscM C ∧ Ret Try.prog 11 [fmD s e] (· = .tup [mdD s (decide (0 ∈ l)) (C.map (facM (addT [] T))), .int .i64 0]) := by
  have v := formula_Valid s e (by omega)
  rw [h] at v
  have b0 : ([0] : List Nat).length ≤ 33 ∧ BdM (addT [] T).length [0] := ⟨by decide, fun t ht => by simp at ht; subst ht; exact Nat.two_pow_pos _⟩
  obtain ⟨ll, lb⟩ := md_bd hal [0] b0 T hok (facsIn_addT T []) l hm
  have m := terms_model e (addT [] T) hal [0] b0 T hok [] [] (by rw [hT]; simp; omega) (List.prefix_refl _)
  unfold MdC at m
  rw [hm, List.append_nil, hT] at m
  have m : RetM Try.prog 26 [601] [.ptr 17 0, .d (tsD [0]), .d (ndsD e)] (lookB (xB e [])) (.tup [.d (tsD l), .d (ndsD [])]) (lookB (xB e (addT [] T))) := m
  have c0 := slices_ContainsT l 0 (by omega)
  obtain ⟨L, L1, L2, L3, wo⟩ := terms_withoutB l [0] (by omega) (by simp)
  have ml := minusM_le l [0]
  have bL : BdM 64 L := fun t ht => by
    rcases L3 t ht with q | q
    · exact (lb.mono hal) t q
    · subst q; decide
  obtain ⟨C, C1, C2, st⟩ := slices_sort (minusM l [0]).length L L1 (by omega) bL
  rw [L2] at C1
  refine ⟨C, C1, C2, ?_⟩
  have st := st.ren [(500, 5)]
  have lC : C.length = (minusM l [0]).length := C1.length_eq
  have ecut : cut 0 (minusM l [0]).length (C ++ L.drop (minusM l [0]).length) = C := by rw [cut_zero, ← lC, List.take_left' rfl]
  have li := fun i => terms_list e (addT [] T) (C.getD i 0) hal (by
    have : BdM 64 C := bdM_perm C1 (lb.mono hal).minus
    exact this.getD i)
  have lC2 : C.length ≤ 33 := by omega
  generalize decide (0 ∈ l) = bi at *
  generalize C ++ L.drop (minusM l [0]).length = L' at *
  generalize (minusM l [0]).length = n at *
  generalize addT [] T = al at *
  clear C1 C2 L2 L3 bL hm hok hT lb b0
  refine RetL.toRet (ds := [fmD s e]) ?_
  show RetL _ _ [.d (fmD s e)] _ _
  refine retL_of_awpD tab [] Try.func11 rfl rfl (Nat.le_of_ble_eq_true rfl) (fun w0 F0 A io0 => ?_)
  repeat' (first | refine stopA 3 tt ?_ | refine wX ?_ | refine wE ?_ | refine wG ?_ | refine wC v ?_ | refine rg 6 4 ?_ | refine rg 12 6 ?_ | refine wR ?_ | refine wS ?_ ?_ <;> intro _)
  refine stopOut ?_
  refine awp_rename [(1, .ptr 1 0), (2, .ptr 2 0), (3, .ptr 3 0)] [(1, .box 24 [.d (.str s), .d (ndsD e)]), (2, .box mdT [.d (.str []), .d (.bool false), .d .nils]), (3, .box erT [.d (.int .i64 0)])] [(2, 0), (3, 1)] ⟨rfl, rfl, rfl, rfl⟩ ⟨rfl, rfl, rfl, trivial⟩ ?_
  repeat' (first | refine stopA 5 tt ?_ | refine wX ?_ | refine wE ?_ | refine wG ?_ | refine rg 6 4 ?_ | refine rg 12 6 ?_ | refine wR ?_ | refine wS ?_ ?_ <;> intro _)
  refine stopOut ?_
  refine awp_adoptB 17 1 601 fcT 2 fcC fc0 rfl rfl rfl ?_
  repeat' (first | refine stopA 9 tt ?_ | refine wX ?_ | refine wE ?_ | refine wG ?_ | refine wM [601] m ?_ | refine wD [5] wo ?_ | refine wD [] st ?_ | refine wC c0 ?_ | refine rg 6 4 ?_ | refine rg 12 6 ?_ | refine wR ?_ | refine wS ?_ ?_ <;> intro _)
  refine stopOut ?_
  refine awp_frz 5 rfl ?_
  refine awp_frz 601 rfl ?_
  refine awp_frz 17 rfl ?_
  refine awp_slotsD [(2, .ptr 0 0), (3, .ptr 1 0), (4, .d (.ptr [ndsD e, fsD al] 0)), (5, .d (tsD C))] (eB (.str s) (.bool bi) .nils (.int .i64 0)) [(25, [.ptr 0 0, .ptr 1 0])] ⟨rfl, rfl, ptrEq (by rw [cut_zero, List.take_of_length_le (Nat.le_refl _)]), tsEq ecut, rfl⟩ ⟨rfl, rfl, trivial⟩ ?_
  refine awp_adoptB 0 2 48 34 1 rwC [] rfl rfl rfl ?_
  repeat' (first | refine wX ?_ | refine wE ?_ | refine wG ?_ | refine rg 6 4 ?_ | refine rg 12 6 ?_ | refine wR ?_ | refine wS ?_ ?_ <;> intro _)
  refine awp_loopD [(25, [.ptr 0 0, .ptr 1 0])] (fun (j : Nat) => ([(2, .ptr 0 0), (3, .ptr 1 0), (4, .d (.ptr [ndsD e, fsD al] 0)), (36, .d (tsD C)), (37, .d (.int .i64 C.length)), (38, .d (.int .i64 j))], [(0, .box mdT [.d (.str s), .d (.bool bi), .own 48 0 j 34 1]), (1, .box erT [.d (.int .i64 0)]), (48, .data 34 1 rwC [] ((C.take j).map (facM al)))])) (fun j => j ≤ C.length) (fun j => C.length - j) 0 (Nat.zero_le _) ⟨rfl, rfl, rfl, rfl, rfl, rfl, rfl⟩ ⟨rfl, rfl, rfl, trivial⟩ (fun j hj => ?_) (fun _ => rfl)
  have l0 := li j
  have tl : ((C.take j).map (facM al)).length = j := by rw [List.length_map, List.length_take]; omega
  by_cases h0 : j < C.length
  · have st := take_snoc 0 h0
    clear li
    repeat' (first | refine wX ?_ | refine wE ?_ | refine wG ?_ | refine wC l0 ?_ | refine rg 6 4 ?_ | refine rg 12 6 ?_ | refine wR ?_ | refine wS ?_ ?_ <;> intro _)
    exact ⟨j + 1, h0, by omega, ⟨rfl, rfl, rfl, rfl, rfl, iv (by omega), rfl⟩, (by show some _ = some _; rw [List.length_append, tl]; rfl), rfl, rwEq (by rw [st, List.map_append]; rfl), trivial⟩
  · have e0 : j = C.length := by omega
    subst e0
    rw [List.take_of_length_le (Nat.le_refl _)] at tl ⊢
    clear li l0
    repeat' (first | refine stopA 14 tt ?_ | refine wX ?_ | refine wE ?_ | refine wG ?_ | refine rg 6 4 ?_ | refine rg 12 6 ?_ | refine wR ?_ | refine wS ?_ ?_ <;> intro _)
    refine stopOut ?_
    refine awp_frz 48 rfl ?_
    have e9 : cut 0 C.length (C.map (facM al)) = C.map (facM al) := by rw [cut_zero, List.take_of_length_le (by omega)]
    repeat' (first | refine wX ?_ | refine wE ?_ | refine wG ?_ | refine rg 6 4 ?_ | refine rg 12 6 ?_ | refine wR ?_ | refine wS ?_ ?_ <;> intro _)
    exact ⟨_, _, _, _, _, rfl, Expand_nil _ _ _ _, ⟨rfl, rfl, trivial⟩, rfl, ⟨_, rfl, rfl⟩, .inr ⟨by simp, _, rfl, by
      show LeT [.agg [.str s, .bool bi, .sl 1 rwC [] (cut 0 C.length (C.map (facM al)))], .int .i64 0] _
      rw [e9]
      exact leT⟩⟩
end Go.Proofs.Ytjooknpgcjicbaa

/-
  Models held valid, by the program. Conditions: as each says.
-/
set_option maxHeartbeats 8000000
namespace Go.Proofs.Ytjooknpgcjicbaa
open Go.Vw
attribute [local irreducible] awp awpL awpR

theorem same_one (b : List Fc) (f : Fc) (hb : b.length ≤ 1000000) : Ret Try.prog 80 [fcD f, .ptr [fsD b] 0] (· = .bool (!decide (f ∈ b))) := by
  have c := slices_ContainsF b f hb
  generalize decide (f ∈ b) = r at *
  refine ret_of_awp tab Try.func80 rfl rfl (Nat.le_of_ble_eq_true rfl) (fun w0 F0 => ?_)
  repeat' (first | refine wG ?_ | refine wC c ?_ | refine wR ?_ | refine wS ?_ ?_ <;> intro _ | refine finG ?_)
  all_goals rfl
theorem same_any (a b : List Fc) (ha : a.length ≤ 1000000) (hb : b.length ≤ 1000000) : Ret Try.prog 79 [fsD a, .fn 80 [.ptr [fsD b] 0]] (· = .bool (a.any fun f => !decide (f ∈ b))) := by
  have hf := fun i => same_one b (a.getD i fc0) hb
  have ix : ∃ n : Int, decide (0 ≤ n) = (a.any fun f => !decide (f ∈ b)) ∧ Ret Try.prog 99 [fsD a, .fn 80 [.ptr [fsD b] 0]] (· = .int .i64 n) := by
    rcases find_pred fc0 a (fun f => !decide (f ∈ b)) with ⟨e0, j, hj, h1, h2⟩ | ⟨e0, h2⟩
    · refine ⟨j, by rw [e0]; exact decide_eq_true (by omega), ?_⟩
      clear e0
      refine ret_of_awp tab Try.func99 rfl rfl (Nat.le_of_ble_eq_true rfl) (fun w0 F0 => ?_)
      repeat' (first | refine wG ?_ | refine wR ?_ | refine wS ?_ ?_ <;> intro _ | refine finG ?_)
      refine awp_loop1 (fun (i : Nat) => ([(0, .d (fsD a)), (1, .d (.fn 80 [.ptr [fsD b] 0])), (7, .d (.int .i64 a.length)), (8, .d (.int .i64 i))], [])) (fun i => i ≤ j) (fun i => a.length - i) 0 (by omega) ⟨rfl, rfl, rfl, rfl, rfl⟩ trivial (fun i hi => ?_)
      have c := hf i
      by_cases h3 : i < j
      · rw [h2 i h3] at c
        clear h1 h2 hf
        repeat' (first | refine wG ?_ | refine wC c ?_ | refine wR ?_ | refine wS ?_ ?_ <;> intro _ | refine finG ?_)
        exact ⟨i + 1, by omega, by omega, ⟨rfl, rfl, rfl, iv (by omega), rfl⟩, trivial⟩
      · have e : i = j := by omega
        subst e
        rw [h1] at c
        clear h1 h2 hf
        repeat' (first | refine wG ?_ | refine wC c ?_ | refine wR ?_ | refine wS ?_ ?_ <;> intro _ | refine finG ?_)
        rfl
    · refine ⟨-1, by rw [e0]; rfl, ?_⟩
      clear e0
      refine ret_of_awp tab Try.func99 rfl rfl (Nat.le_of_ble_eq_true rfl) (fun w0 F0 => ?_)
      repeat' (first | refine wG ?_ | refine wR ?_ | refine wS ?_ ?_ <;> intro _ | refine finG ?_)
      refine awp_loop1 (fun (i : Nat) => ([(0, .d (fsD a)), (1, .d (.fn 80 [.ptr [fsD b] 0])), (7, .d (.int .i64 a.length)), (8, .d (.int .i64 i))], [])) (fun i => i ≤ a.length) (fun i => a.length - i) 0 (by omega) ⟨rfl, rfl, rfl, rfl, rfl⟩ trivial (fun i hi => ?_)
      have c := hf i
      by_cases h3 : i < a.length
      · rw [h2 i h3] at c
        clear h2 hf
        repeat' (first | refine wG ?_ | refine wC c ?_ | refine wR ?_ | refine wS ?_ ?_ <;> intro _ | refine finG ?_)
        exact ⟨i + 1, by omega, by omega, ⟨rfl, rfl, rfl, iv (by omega), rfl⟩, trivial⟩
      · have e : i = a.length := by omega
        subst e
        clear h2 hf
        repeat' (first | refine wG ?_ | refine wR ?_ | refine wS ?_ ?_ <;> intro _ | refine finG ?_)
        rfl
  obtain ⟨n, hn, ix⟩ := ix
  rw [← hn]
  clear hf hn
  refine ret_of_awp tab Try.func79 rfl rfl (Nat.le_of_ble_eq_true rfl) (fun w0 F0 => ?_)
  repeat' (first | refine wG ?_ | refine wC ix ?_ | refine wR ?_ | refine wS ?_ ?_ <;> intro _ | refine finG ?_)
  rfl
theorem terms_same (a b : List Fc) (ha : a.length ≤ 1000000) (hb : b.length ≤ 1000000) : Ret Try.prog 45 [fsD a, fsD b] (· = .bool (sameF a b)) := by
  have c := same_any a b ha hb
  unfold sameF
  generalize (a.any fun f => !decide (f ∈ b)) = r at *
  refine ret_of_awp tab Try.func45 rfl rfl (Nat.le_of_ble_eq_true rfl) (fun w0 F0 => ?_)
  repeat' (first | refine wG ?_ | refine wC c ?_ | refine wR ?_ | refine wS ?_ ?_ <;> intro _ | refine finG ?_)
  all_goals (refine congrArg D.bool ?_; simp_all <;> omega)
theorem terms_factor (f : Fc) : Ret Try.prog 41 [fcD f] (· = .bool (fOk f)) := by
  have c := table_Name f.1
  unfold fOk
  generalize isName f.1 = r at *
  refine ret_of_awp tab Try.func41 rfl rfl (Nat.le_of_ble_eq_true rfl) (fun w0 F0 => ?_)
  repeat' (first | refine wG ?_ | refine wC c ?_ | refine wR ?_ | refine wS ?_ ?_ <;> intro _ | refine finG ?_)
  all_goals (refine congrArg D.bool ?_; simp_all <;> omega)
theorem Valid_one (s t : List Fc) (hs : s.length ≤ 1000000) (ht : t.length ≤ 1000000) : Ret Try.prog 44 [fsD s, .ptr [fsD t] 0] (· = .bool (sameF s t)) := by
  have c := terms_same s t hs ht
  generalize sameF s t = r at *
  refine ret_of_awp tab Try.func44 rfl rfl (Nat.le_of_ble_eq_true rfl) (fun w0 F0 => ?_)
  repeat' (first | refine wG ?_ | refine wC c ?_ | refine wR ?_ | refine wS ?_ ?_ <;> intro _ | refine finG ?_)
  rfl
theorem Valid_any (T : List (List Fc)) (t : List Fc) (hT : T.length ≤ 1000000) (h1 : ∀ s ∈ T, s.length ≤ 1000000) (ht : t.length ≤ 1000000) : Ret Try.prog 43 [rwD T, .fn 44 [.ptr [fsD t] 0]] (· = .bool (T.any fun s => sameF s t)) := by
  have hg : ∀ i, (T.getD i []).length ≤ 1000000 := fun i => by
    rw [List.getD_eq_getElem?_getD]
    cases h : T[i]? with
    | none => exact Nat.zero_le _
    | some s => exact h1 s (List.mem_of_getElem? h)
  have hf := fun i => Valid_one (T.getD i []) t (hg i) ht
  have ix : ∃ n : Int, decide (0 ≤ n) = (T.any fun s => sameF s t) ∧ Ret Try.prog 78 [rwD T, .fn 44 [.ptr [fsD t] 0]] (· = .int .i64 n) := by
    rcases find_pred [] T (fun s => sameF s t) with ⟨e0, j, hj, h1, h2⟩ | ⟨e0, h2⟩
    · refine ⟨j, by rw [e0]; exact decide_eq_true (by omega), ?_⟩
      clear e0
      refine ret_of_awp tab Try.func78 rfl rfl (Nat.le_of_ble_eq_true rfl) (fun w0 F0 => ?_)
      repeat' (first | refine wG ?_ | refine wR ?_ | refine wS ?_ ?_ <;> intro _ | refine finG ?_)
      refine awp_loop1 (fun (i : Nat) => ([(0, .d (rwD T)), (1, .d (.fn 44 [.ptr [fsD t] 0])), (7, .d (.int .i64 T.length)), (8, .d (.int .i64 i))], [])) (fun i => i ≤ j) (fun i => T.length - i) 0 (by omega) ⟨rfl, rfl, rfl, rfl, rfl⟩ trivial (fun i hi => ?_)
      have c := hf i
      by_cases h3 : i < j
      · rw [h2 i h3] at c
        clear h1 h2 hf
        repeat' (first | refine wG ?_ | refine wC c ?_ | refine wR ?_ | refine wS ?_ ?_ <;> intro _ | refine finG ?_)
        exact ⟨i + 1, by omega, by omega, ⟨rfl, rfl, rfl, iv (by omega), rfl⟩, trivial⟩
      · have e : i = j := by omega
        subst e
        rw [h1] at c
        clear h1 h2 hf
        repeat' (first | refine wG ?_ | refine wC c ?_ | refine wR ?_ | refine wS ?_ ?_ <;> intro _ | refine finG ?_)
        rfl
    · refine ⟨-1, by rw [e0]; rfl, ?_⟩
      clear e0
      refine ret_of_awp tab Try.func78 rfl rfl (Nat.le_of_ble_eq_true rfl) (fun w0 F0 => ?_)
      repeat' (first | refine wG ?_ | refine wR ?_ | refine wS ?_ ?_ <;> intro _ | refine finG ?_)
      refine awp_loop1 (fun (i : Nat) => ([(0, .d (rwD T)), (1, .d (.fn 44 [.ptr [fsD t] 0])), (7, .d (.int .i64 T.length)), (8, .d (.int .i64 i))], [])) (fun i => i ≤ T.length) (fun i => T.length - i) 0 (by omega) ⟨rfl, rfl, rfl, rfl, rfl⟩ trivial (fun i hi => ?_)
      have c := hf i
      by_cases h3 : i < T.length
      · rw [h2 i h3] at c
        clear h2 hf
        repeat' (first | refine wG ?_ | refine wC c ?_ | refine wR ?_ | refine wS ?_ ?_ <;> intro _ | refine finG ?_)
        exact ⟨i + 1, by omega, by omega, ⟨rfl, rfl, rfl, iv (by omega), rfl⟩, trivial⟩
      · have e : i = T.length := by omega
        subst e
        clear h2 hf
        repeat' (first | refine wG ?_ | refine wR ?_ | refine wS ?_ ?_ <;> intro _ | refine finG ?_)
        rfl
  obtain ⟨n, hn, ix⟩ := ix
  rw [← hn]
  clear hf hn
  refine ret_of_awp tab Try.func43 rfl rfl (Nat.le_of_ble_eq_true rfl) (fun w0 F0 => ?_)
  repeat' (first | refine wG ?_ | refine wC ix ?_ | refine wR ?_ | refine wS ?_ ?_ <;> intro _ | refine finG ?_)
  rfl
theorem terms_Valid (s : List UInt8) (b : Bool) (T : List (List Fc)) (hT : T.length ≤ 1000000) (h1 : ∀ s ∈ T, s.length ≤ 1000000) : Ret Try.prog 14 [mdD s b T] (· = .bool (mdlV s T)) := by
  have nm := table_Name s
  unfold mdlV
  have hg : ∀ i, (T.getD i []).length ≤ 1000000 := fun i => by
    rw [List.getD_eq_getElem?_getD]
    cases h : T[i]? with
    | none => exact Nat.zero_le _
    | some s => exact h1 s (List.mem_of_getElem? h)
  have va := fun i => Valid_any (T.take i) (T.getD i []) (by rw [List.length_take]; omega) (fun s hs => h1 s (List.mem_of_mem_take hs)) (hg i)
  cases hn : isName s with
  | false =>
    rw [hn] at nm
    clear va hg h1 hn
    refine ret_of_awp tab Try.func14 rfl rfl (Nat.le_of_ble_eq_true rfl) (fun w0 F0 => ?_)
    repeat' (first | refine wG ?_ | refine wC nm ?_ | refine rg 6 21 ?_ | refine rg 11 8 ?_ | refine wR ?_ | refine wS ?_ ?_ <;> intro _ | refine finG ?_)
    all_goals rfl
  | true =>
    rw [hn] at nm
    rw [Bool.true_and]
    clear hn
    by_cases hl : T.length ≤ 32
    · rw [decide_eq_true hl, Bool.true_and]
      refine ret_of_awp tab Try.func14 rfl rfl (Nat.le_of_ble_eq_true rfl) (fun w0 F0 => ?_)
      repeat' (first | refine wG ?_ | refine wC nm ?_ | refine rg 6 21 ?_ | refine rg 11 8 ?_ | refine wR ?_ | refine wS ?_ ?_ <;> intro _ | refine finG ?_)
      refine awp_loop1 (fun (i : Nat) => ([(1, .ptr 1 0), (18, .d (rwD T)), (19, .d (.int .i64 T.length)), (20, .d (.int .i64 i))], [(1, .box mdT [.d (.str s), .d (.bool b), .d (rwD T)])])) (fun i => i ≤ T.length ∧ ∀ j, j < i → rowOk T j = true) (fun i => T.length - i) 0 ⟨by omega, fun j hj => by omega⟩ ⟨rfl, rfl, rfl, rfl, rfl⟩ ⟨rfl, trivial⟩ (fun i hi => ?_)
      obtain ⟨i1, i2⟩ := hi
      by_cases h3 : i < T.length
      · have va := va i
        have g0 := hg i
        have e1 : ((i : Int) - 1).toNat = i - 1 := by omega
        have fl : lenOk T i = false ∨ facsOk (T.getD i []) = false ∨ newOk T i = false → (List.range T.length).all (rowOk T) = false := fun h => all_false h3 (by
          unfold rowOk
          rcases h with h | h | h <;> rw [h] <;> simp)
        cases o1 : lenOk T i with
        | false =>
          rw [fl (.inl o1)]
          unfold lenOk at o1
          rw [← e1] at o1
          simp only [Bool.and_eq_false_iff, Bool.or_eq_false_iff, decide_eq_false_iff_not] at o1
          clear i2 hg h1 va fl
          repeat' (first | refine wG ?_ | refine rg 6 21 ?_ | refine rg 11 8 ?_ | refine wR ?_ | refine wS ?_ ?_ <;> intro _ | refine finG ?_)
          all_goals first | rfl | (exfalso; omega)
        | true =>
          have i2' : facsOk (T.getD i []) = true → newOk T i = true → ∀ j, j < i + 1 → rowOk T j = true := fun a b j hj => by
            by_cases e : j = i
            · rw [e]; unfold rowOk; rw [o1, a, b]; rfl
            · exact i2 j (by omega)
          unfold lenOk at o1
          rw [← e1] at o1
          simp only [Bool.and_eq_true, Bool.or_eq_true, decide_eq_true_eq] at o1
          clear i2 hg h1
          repeat' (first | refine wG ?_ | refine rg 6 21 ?_ | refine rg 11 8 ?_ | refine wR ?_ | refine wS ?_ ?_ <;> intro _ | refine finG ?_)
          all_goals
            refine awp_loop1 (fun (k : Nat) => ([(1, .ptr 1 0), (3, .d (.int .i64 i)), (4, .ptr 4 0), (18, .d (rwD T)), (19, .d (.int .i64 T.length)), (20, .d (.int .i64 i)), (49, .d (fsD (T.getD i []))), (50, .d (.int .i64 (T.getD i []).length)), (51, .d (.int .i64 k))], [(1, .box mdT [.d (.str s), .d (.bool b), .d (rwD T)]), (4, .box 34 [.d (fsD (T.getD i []))])])) (fun k => k ≤ (T.getD i []).length ∧ ∀ j, j < k → facOk (T.getD i []) j = true) (fun k => (T.getD i []).length - k) 0 ⟨by omega, fun j hj => by omega⟩ ⟨rfl, rfl, rfl, rfl, rfl, rfl, rfl, rfl, rfl, rfl⟩ ⟨rfl, rfl, trivial⟩ (fun k hk => ?_)
            obtain ⟨k1, k2⟩ := hk
            by_cases h4 : k < (T.getD i []).length
            · have c1 := terms_factor ((T.getD i []).getD k fc0)
              have c2 := slices_ContainsF ((T.getD i []).take k) ((T.getD i []).getD k fc0) (by rw [List.length_take]; omega)
              cases hf : facOk (T.getD i []) k with
              | false =>
                rw [fl (.inr (.inl (all_false h4 hf)))]
                unfold facOk at hf
                clear va fl i2' k2
                generalize fOk ((T.getD i []).getD k fc0) = q1 at *
                generalize decide ((T.getD i []).getD k fc0 ∈ (T.getD i []).take k) = q2 at *
                cases q1 with
                | false =>
                  clear hf c2 k1
                  repeat' (first | refine wG ?_ | refine wC c1 ?_ | refine rg 6 21 ?_ | refine rg 11 8 ?_ | refine wR ?_ | refine wS ?_ ?_ <;> intro _ | refine finG ?_)
                  all_goals rfl
                | true =>
                  cases q2 with
                  | false => exact absurd hf (by decide)
                  | true =>
                    clear hf
                    repeat' (first | refine wG ?_ | refine wC c1 ?_ | refine wC c2 ?_ | refine rg 6 21 ?_ | refine rg 11 8 ?_ | refine wR ?_ | refine wS ?_ ?_ <;> intro _ | refine finG ?_)
                    all_goals rfl
              | true =>
                have k3 : ∀ j, j < k + 1 → facOk (T.getD i []) j = true := fun j hj => by
                  by_cases e : j = k
                  · rw [e]; exact hf
                  · exact k2 j (by omega)
                unfold facOk at hf
                rw [Bool.and_eq_true, Bool.not_eq_true'] at hf
                rw [hf.1] at c1
                rw [hf.2] at c2
                clear va fl i2' k2 hf
                repeat' (first | refine wG ?_ | refine wC c1 ?_ | refine wC c2 ?_ | refine rg 6 21 ?_ | refine rg 11 8 ?_ | refine wR ?_ | refine wS ?_ ?_ <;> intro _ | refine finG ?_)
                all_goals exact ⟨k + 1, ⟨by omega, k3⟩, by omega, ⟨rfl, rfl, rfl, rfl, rfl, rfl, rfl, rfl, iv (by omega), rfl⟩, rfl, rfl, trivial⟩
            · have e : k = (T.getD i []).length := by omega
              subst e
              cases hw : newOk T i with
              | false =>
                rw [fl (.inr (.inr hw))]
                unfold newOk at hw
                rw [Bool.not_eq_false'] at hw
                rw [hw] at va
                clear fl i2' k2 hw
                repeat' (first | refine wG ?_ | refine wC va ?_ | refine rg 6 21 ?_ | refine rg 11 8 ?_ | refine wR ?_ | refine wS ?_ ?_ <;> intro _ | refine finG ?_)
                all_goals rfl
              | true =>
                have i3 := i2' (all_true k2) hw
                unfold newOk at hw
                rw [Bool.not_eq_true'] at hw
                rw [hw] at va
                clear fl i2' k2 hw
                repeat' (first | refine wG ?_ | refine wC va ?_ | refine rg 6 21 ?_ | refine rg 11 8 ?_ | refine wR ?_ | refine wS ?_ ?_ <;> intro _ | refine finG ?_)
                all_goals exact ⟨i + 1, ⟨by omega, i3⟩, by omega, ⟨rfl, rfl, rfl, iv (by omega), rfl⟩, rfl, trivial⟩
      · have e : i = T.length := by omega
        subst e
        rw [all_true i2]
        clear va hg h1 i2
        repeat' (first | refine wG ?_ | refine rg 6 21 ?_ | refine rg 11 8 ?_ | refine wR ?_ | refine wS ?_ ?_ <;> intro _ | refine finG ?_)
        rfl
    · rw [decide_eq_false hl, Bool.false_and]
      clear va hg h1
      refine ret_of_awp tab Try.func14 rfl rfl (Nat.le_of_ble_eq_true rfl) (fun w0 F0 => ?_)
      repeat' (first | refine wG ?_ | refine wC nm ?_ | refine rg 6 21 ?_ | refine rg 11 8 ?_ | refine wR ?_ | refine wS ?_ ?_ <;> intro _ | refine finG ?_)
      all_goals rfl
end Go.Proofs.Ytjooknpgcjicbaa

/-
  Models held valid, by the reference. Conditions: as each says.
-/
set_option maxHeartbeats 8000000
namespace Go.Proofs.Ytjooknpgcjicbaa
open Go.Vw
attribute [local irreducible] awp awpL awpR

theorem ref10_SameSet (a b : List Fc) (ha : a.length ≤ 1000000) (hb : b.length ≤ 1000000) : Ret Try.prog 48 [fsD a, fsD b] (· = .bool (sameF a b)) := by
  unfold sameF
  by_cases hl : a.length = b.length
  · rw [decide_eq_true hl, Bool.true_and]
    have hp := fun f => ref10_place b f hb
    rcases find_pred fc0 a (fun f => !decide (f ∈ b)) with ⟨e0, j, hj, h1, h2⟩ | ⟨e0, h2⟩
    · rw [e0]
      clear e0
      refine ret_of_awp tab Try.func48 rfl rfl (Nat.le_of_ble_eq_true rfl) (fun w0 F0 => ?_)
      repeat' (first | refine wG ?_ | refine wR ?_ | refine wS ?_ ?_ <;> intro _ | refine finG ?_)
      refine awp_loop1 (fun (i : Nat) => ([(0, .d (fsD a)), (1, .d (fsD b)), (5, .d (.int .i64 i))], [])) (fun i => i ≤ j) (fun i => a.length - i) 0 (by omega) ⟨rfl, rfl, rfl, rfl⟩ trivial (fun i hi => ?_)
      have c := hp (a.getD i fc0)
      by_cases h3 : i < j
      · have q := h2 i h3
        have q2 : 0 ≤ plc b (a.getD i fc0) := plc_ge.2 (by simpa using q)
        generalize plc b (a.getD i fc0) = n at *
        clear h1 h2 hp q
        repeat' (first | refine wG ?_ | refine wC c ?_ | refine wR ?_ | refine wS ?_ ?_ <;> intro _ | refine finG ?_)
        exact ⟨i + 1, by omega, by omega, ⟨rfl, rfl, iv (by omega), rfl⟩, trivial⟩
      · have e : i = j := by omega
        subst e
        have q2 : ¬ 0 ≤ plc b (a.getD i fc0) := fun e => absurd (plc_ge.1 e) (by simpa using h1)
        generalize plc b (a.getD i fc0) = n at *
        clear h1 h2 hp
        repeat' (first | refine wG ?_ | refine wC c ?_ | refine wR ?_ | refine wS ?_ ?_ <;> intro _ | refine finG ?_)
        rfl
    · rw [e0]
      clear e0
      refine ret_of_awp tab Try.func48 rfl rfl (Nat.le_of_ble_eq_true rfl) (fun w0 F0 => ?_)
      repeat' (first | refine wG ?_ | refine wR ?_ | refine wS ?_ ?_ <;> intro _ | refine finG ?_)
      refine awp_loop1 (fun (i : Nat) => ([(0, .d (fsD a)), (1, .d (fsD b)), (5, .d (.int .i64 i))], [])) (fun i => i ≤ a.length) (fun i => a.length - i) 0 (by omega) ⟨rfl, rfl, rfl, rfl⟩ trivial (fun i hi => ?_)
      by_cases h3 : i < a.length
      · have c := hp (a.getD i fc0)
        have q := h2 i h3
        have q2 : 0 ≤ plc b (a.getD i fc0) := plc_ge.2 (by simpa using q)
        generalize plc b (a.getD i fc0) = n at *
        clear h2 hp q
        repeat' (first | refine wG ?_ | refine wC c ?_ | refine wR ?_ | refine wS ?_ ?_ <;> intro _ | refine finG ?_)
        exact ⟨i + 1, by omega, by omega, ⟨rfl, rfl, iv (by omega), rfl⟩, trivial⟩
      · have e : i = a.length := by omega
        subst e
        clear h2 hp
        repeat' (first | refine wG ?_ | refine wR ?_ | refine wS ?_ ?_ <;> intro _ | refine finG ?_)
        rfl
  · rw [decide_eq_false hl, Bool.false_and]
    refine ret_of_awp tab Try.func48 rfl rfl (Nat.le_of_ble_eq_true rfl) (fun w0 F0 => ?_)
    repeat' (first | refine wG ?_ | refine wR ?_ | refine wS ?_ ?_ <;> intro _ | refine finG ?_)
    rfl
end Go.Proofs.Ytjooknpgcjicbaa

/-
  The reference's reader: signs, words, digits. Conditions: the text is not too long.
-/
set_option maxHeartbeats 8000000
namespace Go.Proofs.Ytjooknpgcjicbaa
open Go.Vw
attribute [local irreducible] awp awpL awpR

abbrev rdB (t : List UInt8) (a er pl : Int) : Blk := .box 89 [.d (.str t), .d (.int .i64 a), .d (.int .i64 er), .d (.int .i64 pl)]
abbrev rW (t : List UInt8) (a : Nat) (er pl : Int) : List (Nat × Blk) := [(600, rdB t a er pl)]
theorem rdEq {t : List UInt8} {a a' er pl : Int} (h : a = a') : some (rdB t a er pl) = some (rdB t a' er pl) := by rw [h]
theorem ref_blanks (t : List UInt8) (a : Nat) (er pl : Int) (hl : t.length < 1000000) (ha : a ≤ t.length + 10) : RetB Try.prog 88 [.ptr 600 0] (lookB (rW t a er pl)) (.tup []) (lookB (rW t (skp t a) er pl)) := by
  have hge := skp_ge t a
  have hmx := skp_max t a
  have hin := fun j (h : a ≤ j) (h2 : j < skp t a) => runE_in isBl (t := t) h h2
  have hst := fun h => runE_stop isBl (t := t) (i := a) h
  rw [show runE isBl t a = skp t a from rfl] at hst
  generalize skp t a = n at *
  refine retB_of_awp tab [600] Try.func88 rfl rfl rfl (Nat.le_of_ble_eq_true rfl) rfl ⟨Nat.le_refl _, trivial⟩ (fun w0 F0 A io0 => ?_)
  repeat' (first | refine wG ?_ | refine rg 0 19 ?_ | refine wR ?_ | refine wS ?_ ?_ <;> intro _ | refine wB ?_ ?_ | refine wF ?_)
  refine awp_loop1 (fun (j : Nat) => ([(0, .ptr 600 0)], rW t j er pl)) (fun j => a ≤ j ∧ j ≤ n) (fun j => n - j) a ⟨Nat.le_refl _, hge⟩ ⟨rfl, rfl⟩ ⟨rfl, trivial⟩ (fun j hj => ?_)
  by_cases g : j < n
  · have q := hin j hj.1 g
    rw [isBl_nat, decide_eq_true_eq] at q
    by_cases hjl : j < t.length
    · clear hin hst
      repeat' (first | refine wG ?_ | refine rg 0 19 ?_ | refine wR ?_ | refine wS ?_ ?_ <;> intro _ | refine wB ?_ ?_ | refine wF ?_)
      exact ⟨j + 1, by omega, by omega, ⟨rfl, rfl⟩, rdEq (by omega), trivial⟩
    · exfalso
      have : t.getD j 0 = 0 := by rw [List.getD_eq_getElem?_getD, List.getElem?_eq_none (by omega)]; rfl
      rw [this] at q; revert q; decide
  · have e : j = n := by omega
    subst e
    by_cases hn : j < t.length
    · have q := hst hn
      rw [isBl_nat, decide_eq_false_iff_not] at q
      clear hin hst
      repeat' (first | refine wG ?_ | refine rg 0 19 ?_ | refine wR ?_ | refine wS ?_ ?_ <;> intro _ | refine wB ?_ ?_ | refine wF ?_)
      all_goals first | exact leVT | exact ⟨rfl, trivial⟩
    · clear hin hst
      repeat' (first | refine wG ?_ | refine rg 0 19 ?_ | refine wR ?_ | refine wS ?_ ?_ <;> intro _ | refine wB ?_ ?_ | refine wF ?_)
      all_goals first | exact leVT | exact ⟨rfl, trivial⟩
theorem ref_sign (t : List UInt8) (a : Nat) (er pl v : Int) (hl : t.length < 1000000) (ha : a ≤ t.length + 10) (hv : (er = 0 ∧ v = sgI t (skp t a)) ∨ (er ≠ 0 ∧ v = 0)) : RetB Try.prog 56 [.ptr 600 0] (lookB (rW t a er pl)) (.d (.int .u8 v)) (lookB (rW t (skp t a) er pl)) := by
  have b := ref_blanks t a er pl hl ha
  have hmx := skp_max t a
  generalize skp t a = i at *
  rcases hv with ⟨h1, h2⟩ | ⟨h1, h2⟩
  · subst h1
    unfold sgI at h2
    by_cases h3 : i < t.length
    · rw [if_pos h3] at h2
      subst h2
      refine retB_of_awp tab [600] Try.func56 rfl rfl rfl (Nat.le_of_ble_eq_true rfl) rfl ⟨Nat.le_refl _, trivial⟩ (fun w0 F0 A io0 => ?_)
      repeat' (first | refine wG ?_ | refine wD [] b ?_ | refine rg 2 15 ?_ | refine rg 4 8 ?_ | refine wR ?_ | refine wS ?_ ?_ <;> intro _ | refine wB ?_ ?_ | refine wF ?_)
      all_goals first | exact leVT | exact ⟨rfl, trivial⟩
    · rw [if_neg h3] at h2
      subst h2
      refine retB_of_awp tab [600] Try.func56 rfl rfl rfl (Nat.le_of_ble_eq_true rfl) rfl ⟨Nat.le_refl _, trivial⟩ (fun w0 F0 A io0 => ?_)
      repeat' (first | refine wG ?_ | refine wD [] b ?_ | refine rg 2 15 ?_ | refine rg 4 8 ?_ | refine wR ?_ | refine wS ?_ ?_ <;> intro _ | refine wB ?_ ?_ | refine wF ?_)
      all_goals first | exact leVT | exact ⟨rfl, trivial⟩
  · subst h2
    refine retB_of_awp tab [600] Try.func56 rfl rfl rfl (Nat.le_of_ble_eq_true rfl) rfl ⟨Nat.le_refl _, trivial⟩ (fun w0 F0 A io0 => ?_)
    repeat' (first | refine wG ?_ | refine wD [] b ?_ | refine rg 2 15 ?_ | refine rg 4 8 ?_ | refine wR ?_ | refine wS ?_ ?_ <;> intro _ | refine wB ?_ ?_ | refine wF ?_)
    all_goals first | exact leVT | exact ⟨rfl, trivial⟩
theorem ref_take (t : List UInt8) (a : Nat) (er pl v c : Int) (hl : t.length < 1000000) (ha : a ≤ t.length + 10) (hv : (er = 0 ∧ v = sgI t (skp t a)) ∨ (er ≠ 0 ∧ v = 0)) : RetB Try.prog 84 [.ptr 600 0, .d (.int .u8 c)] (lookB (rW t a er pl)) (.d (.bool (decide (v = c)))) (lookB (rW t (if v = c then skp t a + 1 else skp t a) er pl)) := by
  have s := ref_sign t a er pl v hl ha hv
  have hmx := skp_max t a
  generalize skp t a = i at *
  by_cases h : v = c
  · rw [if_pos h, decide_eq_true h]
    clear hv
    refine retB_of_awp tab [600] Try.func84 rfl rfl rfl (Nat.le_of_ble_eq_true rfl) rfl ⟨Nat.le_refl _, trivial⟩ (fun w0 F0 A io0 => ?_)
    repeat' (first | refine wG ?_ | refine wD [] s ?_ | refine wR ?_ | refine wS ?_ ?_ <;> intro _ | refine wB ?_ ?_ | refine wF ?_)
    all_goals first | exact leVT | exact ⟨rdEq (by omega), trivial⟩
  · rw [if_neg h, decide_eq_false h]
    clear hv
    refine retB_of_awp tab [600] Try.func84 rfl rfl rfl (Nat.le_of_ble_eq_true rfl) rfl ⟨Nat.le_refl _, trivial⟩ (fun w0 F0 A io0 => ?_)
    repeat' (first | refine wG ?_ | refine wD [] s ?_ | refine wR ?_ | refine wS ?_ ?_ <;> intro _ | refine wB ?_ ?_ | refine wF ?_)
    all_goals first | exact leVT | exact ⟨rfl, trivial⟩
theorem ref_fail0 (t : List UInt8) (a : Nat) (pl e : Int) : RetB Try.prog 57 [.ptr 600 0, .d (.int .i64 e)] (lookB (rW t a 0 pl)) (.tup []) (lookB (rW t a e a)) := by
  refine retB_of_awp tab [600] Try.func57 rfl rfl rfl (Nat.le_of_ble_eq_true rfl) rfl ⟨Nat.le_refl _, trivial⟩ (fun w0 F0 A io0 => ?_)
  repeat' (first | refine wG ?_ | refine wR ?_ | refine wS ?_ ?_ <;> intro _ | refine wB ?_ ?_ | refine wF ?_)
  all_goals first | exact leVT | exact ⟨rfl, trivial⟩
theorem ref_failE (t : List UInt8) (a : Nat) (er pl e : Int) (h : er ≠ 0) : RetB Try.prog 57 [.ptr 600 0, .d (.int .i64 e)] (lookB (rW t a er pl)) (.tup []) (lookB (rW t a er pl)) := by
  refine retB_of_awp tab [600] Try.func57 rfl rfl rfl (Nat.le_of_ble_eq_true rfl) rfl ⟨Nat.le_refl _, trivial⟩ (fun w0 F0 A io0 => ?_)
  repeat' (first | refine wG ?_ | refine wR ?_ | refine wS ?_ ?_ <;> intro _ | refine wB ?_ ?_ | refine wF ?_)
  all_goals first | exact leVT | exact ⟨rfl, trivial⟩
end Go.Proofs.Ytjooknpgcjicbaa
