/-
  A statement of the seat: what its contract is, and the claim. Conditions: as each says.
-/
import Derived.Test.YtfnckkfbnnbmkaaGreatA11
set_option linter.unusedVariables false
set_option linter.unusedSimpArgs false
set_option maxHeartbeats 16000000
namespace Go.Proofs.YtfnckkfbnnbmkaaGreat
open Go.Vw
attribute [local irreducible] awp awpL awpR

theorem pick_take {l : List Rat} {q : List Int} {i : Nat} (h : i < q.length) : pick l (q.take i) ++ [l.getD (q.getD i 0).toNat 0] = pick l (q.take (i + 1)) := by
  unfold pick
  rw [List.take_add_one, List.map_append, List.getD_eq_getElem?_getD (l := q), List.getElem?_eq_getElem h]
  rfl
theorem ignores_true (raw perm : List Int) (level g : Int) (hl : raw.length ≤ 9223372036854775807) (hx : I64 raw) (hl2 : perm.length ≤ 9223372036854775807) (hx2 : I64 perm) (a1 : -9223372036854775808 ≤ level) (a2 : level < 9223372036854775808) (b1 : -9223372036854775808 ≤ g) (b2 : g < 9223372036854775808) : Ret Tryz.prog 9 [i64s raw, i64s perm, .int .i64 level, .int .i64 g] (· = .bool true) := by
  have aw := law16_awake
  have nu : Ret Tryz.prog 12 [i64s raw, .int .i64 9] (· = qsD ((raw.take 9).map numQ)) := made_Numbers raw 9 hl hx (by decide)
  have lv := made_Level level a1 a2
  have kl := numbers_ok raw 9
  have hlen : ((raw.take 9).map numQ).length ≤ 9 := by simp; omega
  generalize (raw.take 9).map numQ = l at *
  have kp := ok_levQ level
  have bp := levQ_bd level
  generalize levQ level = p at *
  by_cases h0 : l.length < 2
  · refine ret_of_awp tab Tryz.func9 rfl rfl (Nat.le_of_ble_eq_true rfl) (fun w0 F0 => ?_)
    repeat' (first
      | (show awpL _ _ _ _ _; first | refine goL ?_ | refine cl 12 tt rfl rfl rfl (hr := nu) (k := ?_) | refine cl 13 tt rfl rfl rfl (hr := aw) (k := ?_) | (refine gdLG ?_ ?_ <;> intro _ <;> try (exfalso; omega)))
      | (show awp _ _ _ _; first | refine goA ?_ | refine rg 17 9 ?_ | (refine cdG ?_ ?_ <;> intro _ <;> try (exfalso; omega)))
      | (show andThen _ _ _ _; refine goN ?_)
      | (show inBlock _ _ _ _; refine goB ?_)
      | (show awpR _ _ _ _ _ _ _; first | refine goR ?_ | refine clR 12 tt rfl rfl rfl (hr := nu) (k := ?_) | refine clR 13 tt rfl rfl rfl (hr := aw) (k := ?_) | (refine gdRG ?_ ?_ <;> intro _ <;> try (exfalso; omega)))
      | (show retPost _ _ _ _ _; refine finG ?_))
    rfl
  · have pe := made_Permutation l.length perm (by omega) (by omega) hl2 hx2
    have qb := permZ_bd perm (show 0 < l.length by omega) (Nat.le_refl l.length)
    have qp := permZ_perm perm (show 0 < l.length by omega) l.length (Nat.le_refl _)
    have ql := permZ_len l.length perm l.length
    generalize permZ l.length perm l.length = q at *
    have pk := pick_perm (l := l) qp
    have md := made_ModW g (((l.length : Int) + 1) / 2) b1 b2 (by omega) (by omega)
    have mb := modN g (show 0 < (l.length + 1) / 2 by omega)
    rw [show (((l.length + 1) / 2 : Nat) : Int) = ((l.length : Int) + 1) / 2 by omega] at mb
    generalize g % (((l.length : Int) + 1) / 2) = k at *
    obtain ⟨k, rfl⟩ : ∃ m : Nat, k = m := ⟨k.toNat, by omega⟩
    have ml := pk.length_eq
    have km : ∀ x ∈ pick l q, okQ 10 x := fun x hx => kl x (pk.subset hx)
    have e1 := law16_estimates l p k (by omega) (by omega) (okQ_mono kl (by decide)) (kp.mono (by decide)) (Rat.le_of_lt bp.1) (Rat.le_of_lt bp.2) (by omega)
    have e2 := law16_estimates (pick l q) p k (by omega) (by omega) (okQ_mono km (by decide)) (kp.mono (by decide)) (Rat.le_of_lt bp.1) (Rat.le_of_lt bp.2) (by omega)
    rw [estL_perm pk] at e2
    have s1 := sameList_Q (estL l p k) (show 11 < 100000000000 by decide) (fun x hx => (est_ok (by omega) (by omega) (okQ_mono kl (by decide)) (by omega) x hx).mono (by decide))
    have so1 := order_SortQ2 l (by omega) (okQ_mono kl (by decide))
    have so2 := order_SortQ2 (pick l q) (by omega) (okQ_mono km (by decide))
    rw [srt_congr pk] at so2
    have hsl := srt_len l
    have hsa := srt_asc l
    have hso := srt_ok kl
    have s2 := sameList_Q (srt l) (by omega) (okQ_mono hso (by decide))
    clear kl km pk qp kp bp
    generalize srt l = s at *
    generalize estL l p k = es at *
    refine ret_of_awp tab Tryz.func9 rfl rfl (Nat.le_of_ble_eq_true rfl) (fun w0 F0 => ?_)
    repeat' (first
      | (show awpL _ _ _ _ _; first | refine goL ?_ | refine cl 12 tt rfl rfl rfl (hr := nu) (k := ?_) | refine cl 48 tt rfl rfl rfl (hr := pe) (k := ?_) | (refine gdLG ?_ ?_ <;> intro _ <;> try (exfalso; omega)))
      | (show awp _ _ _ _; first | refine goA ?_ | refine rg 17 9 ?_ | (refine cdG ?_ ?_ <;> intro _ <;> try (exfalso; omega)))
      | (show andThen _ _ _ _; refine goN ?_)
      | (show inBlock _ _ _ _; refine goB ?_)
      | (show awpR _ _ _ _ _ _ _; first | refine goR ?_ | refine clR 12 tt rfl rfl rfl (hr := nu) (k := ?_) | refine clR 48 tt rfl rfl rfl (hr := pe) (k := ?_) | (refine gdRG ?_ ?_ <;> intro _ <;> try (exfalso; omega)))
      | (show retPost _ _ _ _ _; refine finG ?_))
    refine awp_adopt 11 500 30 3 qC 0 rfl ?_
    refine awp_loop1 (fun (i : Nat) => ([(2, .d (.int .i64 level)), (3, .d (.int .i64 g)), (9, .d (qsD l)), (10, .d (i64s q)), (11, .own 500 0 i 30 3), (12, .d (.int .i64 i))], [(500, qB (pick l (q.take i)))])) (fun i => i ≤ l.length) (fun i => l.length - i) 0 (by omega) ⟨rfl, rfl, rfl, rfl, rfl, rfl, rfl⟩ ⟨rfl, trivial⟩ (fun i hi => ?_)
    have hpl : (pick l (q.take i)).length = i := by unfold pick; rw [List.length_map, List.length_take]; omega
    by_cases h3 : i < l.length
    · have hz := qb (q.getD i 0) (by rw [List.getD_eq_getElem?_getD, List.getElem?_eq_getElem (show i < q.length by omega)]; exact List.getElem_mem _)
      have ep := pick_take (l := l) (q := q) (i := i) (by omega)
      clear qb so2 e2 hsa hso
      generalize pick l (q.take i) = m at *
      repeat' (first
        | (show awpL _ _ _ _ _; first | refine goL ?_ | (refine gdLG ?_ ?_ <;> intro _ <;> try (exfalso; omega)))
        | (show awp _ _ _ _; first | refine goA ?_ | refine rg 17 9 ?_ | (refine cdG ?_ ?_ <;> intro _ <;> try (exfalso; omega)))
        | (show andThen _ _ _ _; refine goN ?_)
        | (show inBlock _ _ _ _; refine goB ?_)
        | (show awpR _ _ _ _ _ _ _; first | refine goR ?_ | (refine gdRG ?_ ?_ <;> intro _ <;> try (exfalso; omega)))
        | (show retPost _ _ _ _ _; refine finG ?_))
      exact ⟨i + 1, by omega, by omega, ⟨rfl, rfl, rfl, rfl, ownEq (by simp; omega), iv (by omega), rfl⟩, blkEq ep, trivial⟩
    · have eq : q.take i = q := List.take_of_length_le (by omega)
      rw [eq] at hpl ⊢
      generalize pick l q = m at *
      clear qb
      obtain rfl : i = l.length := by omega
      have hcut : cut 0 l.length m = m := by rw [← hpl]; exact cut_all m
      repeat' (first
        | (show awpL _ _ _ _ _; first | refine goL ?_ | refine cl 24 tt rfl rfl rfl (hr := md) (k := ?_) | refine cl 15 tt rfl rfl rfl (hr := lv) (k := ?_) | refine cl 49 tt rfl rfl rfl (hr := e1) (k := ?_) | refine cl 49 tt rfl rfl rfl (hr := e2) (k := ?_) | refine cl 47 tt rfl rfl rfl (hr := so1) (k := ?_) | (refine gdLG ?_ ?_ <;> intro _ <;> try (exfalso; omega)))
        | (show awp _ _ _ _; first | refine goA ?_ | refine rg 17 9 ?_ | (refine cdG ?_ ?_ <;> intro _ <;> try (exfalso; omega)))
        | (show andThen _ _ _ _; refine goN ?_)
        | (show inBlock _ _ _ _; refine goB ?_)
        | (show awpR _ _ _ _ _ _ _; first | refine goR ?_ | refine clR 24 tt rfl rfl rfl (hr := md) (k := ?_) | refine clR 15 tt rfl rfl rfl (hr := lv) (k := ?_) | refine clR 49 tt rfl rfl rfl (hr := e1) (k := ?_) | refine clR 49 tt rfl rfl rfl (hr := e2) (k := ?_) | refine clR 47 tt rfl rfl rfl (hr := so1) (k := ?_) | (refine gdRG ?_ ?_ <;> intro _ <;> try (exfalso; omega)))
        | (show retPost _ _ _ _ _; refine finG ?_))
      refine awp_loop1 (fun (j : Nat) => ([(9, .d (qsD l)), (11, .d (qsD m)), (13, .d (qsD es)), (14, .d (.bool true)), (15, .d (qsD es)), (16, .d (.bool true)), (17, .d (qsD s)), (18, .d (.int .i64 j))], [])) (fun j => j ≤ l.length) (fun j => l.length - j) 0 (by omega) ⟨rfl, qdEq hcut, rfl, rfl, rfl, rfl, rfl, rfl, rfl⟩ trivial (fun j hj => ?_)
      by_cases h4 : j + 1 < l.length
      · have lt := ref03_LessQ (s.getD (j + 1) 0) (s.getD j 0) ((getD_ok hso (by omega)).mono (by decide)) ((getD_ok hso (by omega)).mono (by decide))
        rw [decide_eq_false (Rat.not_lt.2 (asc_getD hsa (show j ≤ j + 1 by omega) (by omega)))] at lt
        clear hso hsa
        repeat' (first
          | (show awpL _ _ _ _ _; first | refine goL ?_ | refine cl 22 tt rfl rfl rfl (hr := lt) (k := ?_) | (refine gdLG ?_ ?_ <;> intro _ <;> try (exfalso; omega)))
          | (show awp _ _ _ _; first | refine goA ?_ | refine rg 17 9 ?_ | (refine cdG ?_ ?_ <;> intro _ <;> try (exfalso; omega)))
          | (show andThen _ _ _ _; refine goN ?_)
          | (show inBlock _ _ _ _; refine goB ?_)
          | (show awpR _ _ _ _ _ _ _; first | refine goR ?_ | refine clR 22 tt rfl rfl rfl (hr := lt) (k := ?_) | (refine gdRG ?_ ?_ <;> intro _ <;> try (exfalso; omega)))
          | (show retPost _ _ _ _ _; refine finG ?_))
        exact ⟨j + 1, by omega, by omega, ⟨rfl, rfl, rfl, rfl, rfl, rfl, rfl, iv (by omega), rfl⟩, trivial⟩
      · clear hso hsa
        repeat' (first
          | (show awpL _ _ _ _ _; first | refine goL ?_ | refine cl 13 tt rfl rfl rfl (hr := aw) (k := ?_) | refine cl 46 tt rfl rfl rfl (hr := s1) (k := ?_) | refine cl 47 tt rfl rfl rfl (hr := so2) (k := ?_) | refine cl 46 tt rfl rfl rfl (hr := s2) (k := ?_) | (refine gdLG ?_ ?_ <;> intro _ <;> try (exfalso; omega)))
          | (show awp _ _ _ _; first | refine goA ?_ | refine rg 17 9 ?_ | (refine cdG ?_ ?_ <;> intro _ <;> try (exfalso; omega)))
          | (show andThen _ _ _ _; refine goN ?_)
          | (show inBlock _ _ _ _; refine goB ?_)
          | (show awpR _ _ _ _ _ _ _; first | refine goR ?_ | refine clR 13 tt rfl rfl rfl (hr := aw) (k := ?_) | refine clR 46 tt rfl rfl rfl (hr := s1) (k := ?_) | refine clR 47 tt rfl rfl rfl (hr := so2) (k := ?_) | refine clR 46 tt rfl rfl rfl (hr := s2) (k := ?_) | (refine gdRG ?_ ?_ <;> intro _ <;> try (exfalso; omega)))
          | (show retPost _ _ _ _ _; refine finG ?_))
        all_goals first | rfl | (simp; omega) | (rename_i hc; exact absurd rfl hc)
end Go.Proofs.YtfnckkfbnnbmkaaGreat
