/-
  append; literals; blocks that are given away (frozen). Conditions: the table of types is the program's.
-/
import Derived.Test.YtcblkjmnigbiiaaDoorAbsG
set_option autoImplicit false
set_option linter.unusedSimpArgs false
namespace Go.Ab
open Go.RowKit

/-- What is appended: m elements, the cells news. -/
def Src (w : World) (v : Value) (m : Nat) (news : List Value) : Prop :=
  (v = .slice none 0 0 ∧ m = 0 ∧ news = []) ∨ ∃ b off c, v = .slice (some ⟨b, off, none⟩) m c ∧ ∀ (j : Nat) u, news[j]? = some u → w.cell? ⟨b, off + j, none⟩ = some u

theorem src_of_sl {F : Nat → Prop} {w : World} {m k : Nat} {cs : List D} {v : Value} (h : DR F w (.sl m cs) v) : ∃ news, Src w v m news ∧ DRL F w (cs.take k) news := by
  simp only [DR] at h
  rcases h with ⟨rfl, rfl, rfl⟩ | ⟨b, off, cap, arr, ty, fz, vals, rfl, _, _, hh, hr, hl⟩
  · exact ⟨[], .inl ⟨rfl, rfl, rfl⟩, by simp [DRL]⟩
  · refine ⟨vals.take k, .inr ⟨b, off, cap, rfl, fun j u hj => ?_⟩, DRL.take _ hl⟩
    exact cell_of_rowAt hh (hr.take k) hj

theorem Src.drew {w : World} {v : Value} {m : Nat} {news : List Value} (h : Src w v m news) : Src w.drew v m news := h

section
variable {P : Program} {w : World} {t ty e : TypeId} {td ed : TyD} (ht : TyOk P t td) (hd : td.desc = .slice e) (he : TyOk P e ed)
include ht hd he

theorem run_append_empty (v : Value) (n cap : Nat) (base : Option Addr) (m : Nat) (hm : m = 0) (news : List Value) (hs : Src w v m news) (hn : n ≤ cap) :
    (Builtin.append_ #[t, t] ty #[.slice base n cap, v]).run P w = .ok (.slice base n cap) w := by
  obtain ⟨i, hi, his, hib, hiz⟩ := he.inf
  have hu := ht.und
  rw [hd] at hu
  subst hm
  have hlen : (Builtin.lenOf v).run P w = .ok 0 w := by
    rcases hs with ⟨rfl, _, _⟩ | ⟨b, off, c, rfl, _⟩ <;> rfl
  have hfc : (Builtin.firstCells i.size 0 v).run P w = .ok #[] w := by
    rcases hs with ⟨rfl, _, _⟩ | ⟨b, off, c, rfl, _⟩
    · rfl
    · simp [Builtin.firstCells, loadCells, loadCellsFrom]
  cases base <;> simp [Builtin.append_, run_underlying hu, sizeOf, typeInfo, hi, hlen, hn, hfc, storeCells]
end

/-- What append makes of a slice that the call owns (or nil). -/
theorem append_own {X : Ctx} {T : TypeId → Option TyD} (hT : TabOk X.P T) {io : Nat → Option Nat} {F : Nat → Prop} {s : St} {a : Act} {w : World} (hs : SR X io F s a w) {t ty e : TypeId} {td ed : TyD} (ht : T t = some td) (hd : td.desc = .slice e) (he : T e = some ed) {k n : Nat} {cells : List D} (hk : s.blk k = some (.data e cells)) {v : Value} (hv : VR io F w (.own k n e ed.size) v) (hn : n * ed.size ≤ cells.length)
    {u : Value} {m : Nat} {news : List Value} {cs : List D} (hu : Src w u m news) (hnl : news.length = m * ed.size) (hcs : DRL F w cs news) (hz : (D.zcells ed.zero).length = ed.size) (hzst : (V.d (D.ofV ed.zero)).storable = true) (_hpos : 0 < ed.size) (hlen : n + m ≤ maxLen) (hby : (n + m) * ed.bytes ≤ 140737488355328) :
    ∃ v' w' io', (Builtin.append_ #[t, t] ty #[v, u]).run X.P w = .ok v' w' ∧ SR X io' F (s.new k (.data e (cells.take (n * ed.size) ++ cs))) a w' ∧ VR io' F w' (.own k (n + m) e ed.size) v' := by
  obtain ⟨i, hi, his, hib, hiz⟩ := (hT _ _ he).inf
  have hund := (hT _ _ ht).und
  rw [hd] at hund
  have hzd : DRL F w (D.zcells ed.zero) ed.zero.cells.toList := by
    have := DR.cells hzst (DR.ofV F w ed.zero)
    unfold D.zcells
    revert this
    cases D.ofV ed.zero <;> exact id
  have hzs : ed.zero.cells.size = ed.size := by have := hzd.length; simp at this; omega
  have hmx : maxLen = 9223372036854775807 := rfl
  have hcs' : DRL F w.drew cs news := DRL.mono (w := w) (w' := w.drew) (fun _ h => h) (fun _ _ => rfl) _ _ hcs
  have empty : ∀ base cap, v = .slice base n cap → n ≤ cap → m = 0 → (Builtin.append_ #[t, t] ty #[v, u]).run X.P w = .ok v w := fun base cap e1 h1 h2 => by
    rw [e1]; exact run_append_empty (hT _ _ ht) hd (hT _ _ he) u n cap base m h2 news hu h1
  have hv0 := hv
  simp only [VR] at hv
  rcases hv with ⟨hio, rfl, rfl⟩ | ⟨b, cap, arr, hio, rfl, hcap, hcm, hh, hsz⟩
  · have hc0 : cells = [] := by
      have := hs.bl k _ hk
      simp only [BR, hio] at this
      rcases this with ⟨_, h⟩ | ⟨b, _, _, h, _⟩
      · exact h
      · cases h
    subst hc0
    by_cases hm : m = 0
    · have hnews : news = [] := by rw [hm] at hnl; simpa using hnl
      subst hnews
      have hcs0 : cs = [] := by have := hcs.length; simpa using this.symm
      subst hcs0
      refine ⟨.slice none 0 0, w, updio io k none, empty none 0 rfl (Nat.le_refl _) hm, SR.setBlk (hs.kill k none) ?_ fun j c _ _ _ h => ?_, ?_⟩
      · simp only [BR]; exact .inl ⟨updio_same _ _ _, by simp⟩
      · rw [updio_same] at h; cases h
      · rw [hm]; simp [VR, updio_same]
    · rcases hu with ⟨_, h, _⟩ | ⟨c, off, cc, rfl, hcell⟩
      · exact absurd h hm
      · have hrun := run_append_nil (P := X.P) w t ty e i ed.zero hund hi hiz ⟨c, off, none⟩ m cc news (by rw [his]; exact hnl) (fun j x hj => by rw [add_plain]; exact hcell j x hj) (by omega) (by omega) (by rw [hib]; simp at hby; omega)
        have hsize : (w.drew).heap.size = w.heap.size := rfl
        have hnb := (hs.drew).newBlk k e (news.toArray ++ Builtin.zeroCells ed.zero.cells (grownCap w m 0 e - m)) (.data e cs) news (by
          intro j x hj
          have : j < news.length := (List.getElem?_eq_some_iff.1 hj).1
          simp only [Nat.zero_add]
          rw [Array.getElem?_append_left (by simpa using this)]
          simpa using hj) (.inl ⟨cs, rfl, hcs'⟩)
        refine ⟨_, _, _, hrun, by simpa using hnb, ?_⟩
        have hge := grownCap_ge w m 0 e
        simp only [VR]
        refine .inr ⟨w.heap.size, grownCap w m 0 e, _, updio_same _ _ _, by simp, by omega, grownCap_le_maxLen w m 0 e (by omega), heap_alloc_new w.drew _, ?_⟩
        simp [size_zeroCells, hnl, hzs]
        rw [← Nat.add_mul]; congr 1; omega
  · have hbr := hs.bl k _ hk
    simp only [BR] at hbr
    rcases hbr with ⟨h, _⟩ | ⟨b', arr', vals, h1, hF, hA, hh', hr, hl⟩
    · rw [hio] at h; cases h
    · rw [hio] at h1; cases h1
      rw [hh] at hh'; cases hh'
      have hvl := hl.length
      by_cases hm0 : m = 0 ∧ u = .slice none 0 0
      · obtain ⟨hm, _⟩ := hm0
        have hnews : news = [] := by rw [hm] at hnl; simpa using hnl
        subst hnews
        have hcs0 : cs = [] := by have := hcs.length; simpa using this.symm
        subst hcs0
        refine ⟨_, w, updio io k (some b), empty _ cap rfl hcap hm, SR.setBlk (hs.kill k (some b)) ?_ fun j c hne hj e1 e2 => ?_, ?_⟩
        · simp only [BR, List.append_nil]
          exact .inr ⟨b, arr, vals.take (n * ed.size), updio_same _ _ _, hF, hA, hh, hr.take _, DRL.take _ hl⟩
        · rw [updio_same] at e2; cases e2
          obtain ⟨b0, hb0⟩ := Option.ne_none_iff_exists'.1 hj
          obtain ⟨_, c1, g1, _⟩ := kill_blk hb0
          rw [updio_ne _ _ hne] at e1
          exact hne (hs.inj j k _ (by rw [g1]; simp) (by rw [hk]; simp) e1 hio)
        · simp only [VR]
          exact .inr ⟨b, cap, arr, updio_same _ _ _, by simp [hm], by omega, hcm, hh, hsz⟩
      · have hsome : ∃ c off cc, u = .slice (some ⟨c, off, none⟩) m cc ∧ ∀ (j : Nat) x, news[j]? = some x → w.cell? ⟨c, off + j, none⟩ = some x := by
          rcases hu with ⟨h, hm, _⟩ | h
          · exact absurd ⟨hm, h⟩ hm0
          · exact h
        obtain ⟨c, off, cc, rfl, hcell⟩ := hsome
        have hnn : n * ed.size ≤ vals.length := by omega
        have hva : ∀ (j : Nat) x, vals[j]? = some x → arr[j]? = some x := fun j x hj => by have := hr j x hj; simpa using this
        have hle : vals.length ≤ arr.size := by
          rcases Nat.lt_or_ge arr.size vals.length with h | h
          · have := hva (vals.length - 1) (vals[vals.length - 1]'(by omega)) (List.getElem?_eq_getElem _)
            have := (Array.getElem?_eq_some_iff.1 this).1
            omega
          · exact h
        have hpre : arr.toList.take (n * ed.size) = vals.take (n * ed.size) := by
          apply List.ext_getElem?
          intro j
          by_cases hj : j < n * ed.size
          · rw [List.getElem?_take, List.getElem?_take, if_pos hj, if_pos hj]
            rw [List.getElem?_eq_getElem (show j < vals.length by omega)]
            have := hva j _ (List.getElem?_eq_getElem (show j < vals.length by omega))
            simpa using this
          · rw [List.getElem?_take, List.getElem?_take, if_neg hj, if_neg hj]
        by_cases hroom : n + m ≤ cap
        · have hfit : n * i.size + news.length ≤ arr.size := by
            rw [his, hnl, hsz, ← Nat.add_mul]; exact Nat.mul_le_mul_right _ hroom
          have hrun := run_append_room (P := X.P) w t ty e i hund hi b n cap arr hh ⟨c, off, none⟩ m cc news (by rw [his]; exact hnl) (fun j x hj => by rw [add_plain]; exact hcell j x hj) hcs.one hroom hfit
          rw [his] at hrun hfit
          have hsz' : (arr.toList.take (n * ed.size) ++ news ++ arr.toList.drop (n * ed.size + news.length)).toArray.size = arr.size := by simp; omega
          have hrow : RowAt (arr.toList.take (n * ed.size) ++ news ++ arr.toList.drop (n * ed.size + news.length)).toArray 0 (vals.take (n * ed.size) ++ news) := by
            rw [hpre]; exact rowAt_toArray _ _
          have hw := hs.write (by rw [hk]; simp) hio hF hA hh hsz' (nb := .data e (cells.take (n * ed.size) ++ cs)) (.inl ⟨_, rfl, vals.take (n * ed.size) ++ news, hrow, DRL.append (DRL.take _ hl) hcs⟩)
          have hself := setRow_heap w b arr (arr.toList.take (n * ed.size) ++ news ++ arr.toList.drop (n * ed.size + news.length)).toArray e _ hh
          refine ⟨_, _, updio io k (some b), hrun, ?_, ?_⟩
          · have hkill := hw.kill k (some b)
            have heq : (s.withBlk k (.data e (cells.take (n * ed.size) ++ cs))).kill k = s.kill k := by
              unfold St.kill St.withBlk
              congr 1
              funext j
              cases hb : Nat.beq j k <;> simp [hb]
            rw [heq] at hkill
            refine SR.setBlk hkill ?_ fun j c hne hj e1 e2 => ?_
            · have hb2 := hw.bl k _ withBlk_same
              simp only [BR] at hb2 ⊢
              rw [updio_same]
              rcases hb2 with ⟨h, _⟩ | h
              · rw [hio] at h; cases h
              · obtain ⟨b2, x2, v2, g1, g⟩ := h
                rw [hio] at g1; cases g1
                exact .inr ⟨b, x2, v2, rfl, g⟩
            · rw [updio_same] at e2; cases e2
              obtain ⟨b0, hb0⟩ := Option.ne_none_iff_exists'.1 hj
              obtain ⟨_, c1, g1, _⟩ := kill_blk hb0
              rw [updio_ne _ _ hne] at e1
              exact hne (hs.inj j k _ (by rw [g1]; simp) (by rw [hk]; simp) e1 hio)
          · simp only [VR]
            exact .inr ⟨b, cap, _, updio_same _ _ _, rfl, hroom, hcm, hself, by rw [hsz', hsz]⟩
        · have holds : ∀ (j : Nat) x, (vals.take (n * ed.size))[j]? = some x → w.cell? ((⟨b, 0, none⟩ : Addr).add j) = some x := fun j x hj => by
            rw [add_plain]; exact cell_of_rowAt hh (hr.take _) hj
          have hrun := run_append_grow (P := X.P) w t ty e i ed.zero hund hi hiz ⟨b, 0, none⟩ n cap (vals.take (n * ed.size)) (by rw [his]; simp; omega) holds ⟨c, off, none⟩ m cc news (by rw [his]; exact hnl) (fun j x hj => by rw [add_plain]; exact hcell j x hj) (by omega) (by omega) (growslice_fits (by omega) (by rw [hib]; exact hby))
          have hnb := (hs.drew).newBlk k e ((vals.take (n * ed.size)).toArray ++ news.toArray ++ Builtin.zeroCells ed.zero.cells (grownCap w (n + m) cap e - (n + m))) (.data e (cells.take (n * ed.size) ++ cs)) (vals.take (n * ed.size) ++ news) (by
            intro j x hj
            have : j < (vals.take (n * ed.size) ++ news).length := (List.getElem?_eq_some_iff.1 hj).1
            simp only [Nat.zero_add]
            rw [Array.getElem?_append_left (by simpa using this)]
            simpa using hj) (.inl ⟨_, rfl, DRL.append (DRL.take _ (DRL.mono (w := w) (w' := w.drew) (fun _ h => h) (fun _ _ => rfl) _ _ hl)) hcs'⟩)
          refine ⟨_, _, _, hrun, hnb, ?_⟩
          have hge := grownCap_ge w (n + m) cap e
          simp only [VR]
          refine .inr ⟨w.heap.size, grownCap w (n + m) cap e, _, updio_same _ _ _, rfl, by omega, grownCap_le_maxLen w (n + m) cap e (by omega), heap_alloc_new w.drew _, ?_⟩
          have : (vals.take (n * ed.size)).length = n * ed.size := by simp; omega
          simp only [Array.size_append, List.size_toArray, this, hnl, size_zeroCells, hzs]
          rw [← Nat.add_mul, ← Nat.add_mul]; congr 1; omega
end Go.Ab
