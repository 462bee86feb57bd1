/-
  copy into a slice of the call's own. Conditions: the table of types is the program's.
-/
import Derived.Test.YtoppaphffnojdaaGreatA10
set_option linter.unusedSimpArgs false
set_option linter.unusedVariables false
set_option linter.unusedSectionVars false
namespace Go.Vw
open Go.RowKit
def copyL {α : Type} (l : List α) (o n : Nat) (l2 : List α) : List α := l.take o ++ (l2.take n ++ l.drop (o + min n l2.length))
theorem copyL_len {α : Type} {l l2 : List α} {o n : Nat} (h : o + n ≤ l.length) : (copyL l o n l2).length = l.length := by
  unfold copyL; simp; omega
theorem copyL_get {α : Type} {l l2 : List α} {o n : Nat} (h : o + n ≤ l.length) (j : Nat) : (copyL l o n l2)[j]? = if o ≤ j ∧ j < o + min n l2.length then l2[j - o]? else l[j]? := by
  unfold copyL
  have hA : (l.take o).length = o := by simp; omega
  have hB : (l2.take n).length = min n l2.length := by simp
  by_cases h1 : j < o
  · rw [List.getElem?_append_left (by omega), List.getElem?_take, if_pos h1, if_neg (by omega)]
  · rw [List.getElem?_append_right (by omega), hA]
    by_cases h2 : j - o < min n l2.length
    · rw [List.getElem?_append_left (by omega), List.getElem?_take, if_pos (by omega), if_pos (by omega)]
    · rw [List.getElem?_append_right (by omega), hB, List.getElem?_drop, if_neg (by omega)]
      congr 1; omega
theorem run_copyOp {P : Program} {ev : Operand → Value} {dst : Option Tmp} {y z : Operand} {t ty : TypeId} {pos : String} {after : Array Edge} {g : Option (Nat × Bool)} {w w' : World} {v : Value} (hv : (Builtin.copy_ #[t, t] ty #[ev y, ev z]).run P w = .ok v w') : (execOp ev ⟨dst, .call ⟨.builtin .copy, #[y, z], #[t, t]⟩, ty, pos, after, g⟩).run P w = .ok (.value v) w' := by
  simp [execOp, resolve, invoke, builtin, hv]
section
variable {X : Ctx} {T : TypeId → Option TyD} (hT : TabOk X.P T) {all : Array Oper} {s : St} {x y : Operand} {t ty e : TypeId} {pos : String} {after : Array Edge} {g : Option (Nat × Bool)} {d : Option Tmp} {td ed : TyD} {k o n : Nat} {α : Type} {en : α → List D} {z : α} {l l2 : List α}
  (hg : gd all s ⟨d, .call ⟨.builtin .copy, #[x, y], #[t, t]⟩, ty, pos, after, g⟩ = some true) (hd : dstOk X.N d = true) (ht : T t = some td) (hds : td.desc = .slice e) (he : T e = some ed)
include hT hg hd ht hds he
theorem e_copy (hx : s.opd x = .own k o n e ed.size) (hk : s.blk k = some (.data e ed.size en z l)) (hn : o + n ≤ l.length) (hy : SrcOk X s (s.opd y) ed.size en l2) :
    E1 X all s ⟨d, .call ⟨.builtin .copy, #[x, y], #[t, t]⟩, ty, pos, after, g⟩ ((s.withBlk k (.data e ed.size en z (copyL l o n l2))).put d (.d .undef)) := by
  intro io F a w hs K Q hQ
  have hw := gd_sound (fun t _ => hs.tm t) hg
  obtain ⟨i, hi, his, hib, hiz⟩ := (hT _ _ he).inf
  have hund := (hT _ _ ht).und
  rw [hds] at hund
  have hv := hs.opd x
  rw [hx] at hv
  have hsrc := hy io F a w _ hs (hs.opd y)
  have hbr := hs.bl k _ hk
  simp only [BR] at hbr
  have none0 : min n l2.length = 0 → copyL l o n l2 = l := fun h => by
    refine List.ext_getElem? fun j => ?_
    rw [copyL_get hn, if_neg (by omega)]
  have hself : copyL l o n l2 = l → s.withBlk k (.data e ed.size en z (copyL l o n l2)) = s := fun h => by
    rw [h]
    refine St.eta (funext fun t => rfl) (funext fun j => ?_) rfl
    by_cases e' : j = k
    · subst e'; rw [withBlk_same, hk]
    · rw [withBlk_ne e']
  have zero : min n l2.length = 0 → (∃ p c, a.eval x = .slice p n c) → (∃ q c', a.eval y = .slice q l2.length c') → opWp X.P all ⟨d, .call ⟨.builtin .copy, #[x, y], #[t, t]⟩, ty, pos, after, g⟩ a w K Q := fun h0 ⟨p, c, e1⟩ ⟨q, c', e2⟩ => by
    have hl : ∀ (x : Addr), (loadCells x 0).run X.P w = .ok #[] w := fun x => by simpa using run_loadCells_list (P := X.P) w x [] (by simp)
    have h0' : Nat.min l2.length n = 0 := by show min l2.length n = 0; omega
    have hrun : (Builtin.copy_ #[t, t] ty #[a.eval x, a.eval y]).run X.P w = .ok (goInt 0) w := by
      rw [e1, e2]
      cases p <;> cases q <;> simp [Builtin.copy_, run_underlying hund, Builtin.lenOf, Builtin.firstCells, sizeOf, typeInfo, hi, h0', storeCells, hl]
    refine opWp_value hw (run_copyOp hrun) (hQ io F _ _ ?_)
    rw [hself (none0 h0)]
    exact hs.put (dstOk_sound hd) (VR.undef _)
  simp only [VR] at hv
  rcases hv with ⟨_, e1, h0, _⟩ | ⟨b, cap, arr, hio, e1, hcap, hcm, hh, hsz, hln⟩
  · rcases hsrc with ⟨⟨p, pc, e2⟩, h2⟩ | ⟨c, off, cc, arr2, ty2, fz, e2, hh2, hr2⟩
    · exact zero (by omega) ⟨_, _, by rw [e1, h0]⟩ ⟨p, pc, by rw [e2, h2]; rfl⟩
    · exact zero (by omega) ⟨_, _, by rw [e1, h0]⟩ ⟨_, _, e2⟩
  · rcases hsrc with ⟨⟨p, pc, e2⟩, h2⟩ | ⟨c, off, cc, arr2, ty2, fz, e2, hh2, hr2⟩
    · exact zero (by rw [h2]; simp) ⟨_, _, e1⟩ ⟨p, pc, by rw [e2, h2]; rfl⟩
    · by_cases hm0 : min n l2.length = 0
      · exact zero hm0 ⟨_, _, e1⟩ ⟨_, _, e2⟩
      · rcases hbr with ⟨g, _⟩ | ⟨b', arr', g1, hF, hA, g4, hr⟩
        · rw [g] at hio; cases hio
        · rw [hio] at g1; cases g1
          rw [hh] at g4; cases g4
          have hmn : Nat.min l2.length n = min n l2.length := by show min l2.length n = _; omega
          obtain ⟨m, hm⟩ : ∃ m, min n l2.length = m := ⟨_, rfl⟩
          have hr2' : LRA F w (fun j => arr2[j]?) off ed.size en (l2.take m) := fun i a hi => by
            rw [List.getElem?_take] at hi
            split at hi
            · exact hr2 i a hi
            · cases hi
          obtain ⟨news, n1, n2, n3, n4⟩ := lra_vals (l2.take m) off hr2'
          have hlen : (l2.take m).length = m := by simp; omega
          rw [hlen] at n1
          have hload : (loadCells ⟨c, off, none⟩ (m * ed.size)).run X.P w = .ok news.toArray w := by
            have := run_loadCells_list (P := X.P) w ⟨c, off, none⟩ news (fun j x hj => by
              rw [add_plain]
              have hj' : j < news.length := (List.getElem?_eq_some_iff.1 hj).1
              simp [World.cell?, hh2, n2 j hj', hj])
            rwa [n1] at this
          have hfit : o * ed.size + news.length ≤ arr.size := by
            rw [hsz, n1, Nat.add_mul]
            have : m * ed.size ≤ cap * ed.size := Nat.mul_le_mul_right _ (by omega)
            omega
          have hst := run_storeCells_at X.P b (o * ed.size) e news 0 arr w hh (by simpa using hfit) n4
          simp only [Nat.add_zero] at hst
          have hrun : (Builtin.copy_ #[t, t] ty #[a.eval x, a.eval y]).run X.P w = .ok (goInt m) (w.setRow b (putRow arr (o * ed.size) news)) := by
            rw [e1, e2]
            have e3 : (arr.toList.take (o * ed.size) ++ news ++ arr.toList.drop (o * ed.size + news.length)).toArray = putRow arr (o * ed.size) news := by unfold putRow; rw [List.append_assoc]
            rw [e3] at hst
            simp [Builtin.copy_, run_underlying hund, Builtin.lenOf, Builtin.firstCells, sizeOf, typeInfo, hi, hmn, hm, his, hload, hst]
          refine opWp_value hw (run_copyOp hrun) (hQ io F _ _ (SR.put (hs.write (by rw [hk]; simp) hio hF hA hh (putRow_size hfit) (nb := .data e ed.size en z (copyL l o n l2)) (by rw [ln_of hk]; simp [Blk.ln, copyL_len hn]) (.inl ⟨_, _, en, z, _, rfl, fun j c' hj => ?_⟩)) (dstOk_sound hd) (VR.undef _)))
          rw [Nat.zero_add]
          rw [copyL_get hn, hm] at hj
          split at hj
          · rename_i hc
            obtain ⟨q1, q2⟩ := n3 (j - o) c' (by rw [List.getElem?_take, if_pos (by omega)]; exact hj)
            refine ⟨q1, DRA.congr (fun i' hi' => ?_) q2⟩
            have h1 : (j - o) * ed.size + o * ed.size = j * ed.size := by rw [← Nat.add_mul]; congr 1; omega
            have h2 : (j - o + 1) * ed.size ≤ m * ed.size := Nat.mul_le_mul_right _ (by omega)
            rw [Nat.add_mul] at h2
            rw [putRow_get hfit, if_pos (by omega)]
            congr 1; omega
          · rename_i hc
            obtain ⟨q1, q2⟩ := hr j c' hj
            refine ⟨q1, DRA.congr (fun i' hi' => ?_) q2⟩
            rw [Nat.zero_add, putRow_get hfit, if_neg]
            intro hcc
            by_cases hjo : j < o
            · have : (j + 1) * ed.size ≤ o * ed.size := Nat.mul_le_mul_right _ hjo
              rw [Nat.add_mul] at this; omega
            · have : (o + m) * ed.size ≤ j * ed.size := Nat.mul_le_mul_right _ (by omega)
              rw [Nat.add_mul] at this; omega
end
section
variable {X : Ctx} {all : Array Oper} {o : Oper} {rest : List Oper} {Q : Exit → St → Prop} {s : St} {td ed : TyD} {α : Type} {en : α → List D} {z : α} {l l2 : List α}
theorem stepCopy {d : Option Tmp} {t : TypeId} {c : Call} {x y : Operand} {e : TypeId} {k i n : Nat} (hop : o.op = .call c) (hc : c = ⟨.builtin .copy, #[x, y], #[t, t]⟩) (hdst : o.dst = d) (hg : gd all s o = some true) (hd : dstOk X.N d = true) (ht : X.T t = some td) (hds : td.desc = .slice e) (he : X.T e = some ed) (hx : s.opd x = .own k i n e ed.size) (hk : s.blk k = some (.data e ed.size en z l)) (hn : i + n ≤ l.length) (hy : SrcZ X s (s.opd y) ed.size en z l2) (r : awpL X all rest Q ((s.withBlk k (.data e ed.size en z (copyL l i n l2))).put d (.d .undef))) : awpL X all (o :: rest) Q s := by
  obtain ⟨dst, op, ty, pos, after, g⟩ := o
  cases hop; cases hdst; subst hc
  exact awpL_step (e_copy X.ok hg hd ht hds he hx hk hn hy) r
end
theorem m_sliceEnd {X : Ctx} {all : Array Oper} {s : St} {o : Oper} {t e : TypeId} {x y : Operand} {td ed : TyD} {k n : Nat} {ty ty' : TypeId} {α : Type} {en : α → List D} {z : α} {l : List α} {i : Int} {kk : IntKind} (hop : o.op = .slice t x (some y) none none) (hg : gd all s o = some true) (ht : X.T t = some td) (hds : td.desc = .slice e) (he : X.T e = some ed) (hx : s.opd x = .own k 0 n ty ed.size) (hk : s.blk k = some (.data ty' ed.size en z l)) (hy : s.opd y = .d (.int kk i)) (hi : i = n) (hl : n = l.length) : M1 X all s o (.d (.sl ed.size en z [])) := fun io F a w htm hb hF K Q hK => by
  obtain ⟨dst', op, ty0, pos, after, g⟩ := o
  cases hop
  have hvx := operands_of htm x (by simp [Op.operands])
  have hvy := operands_of htm y (by simp [Op.operands])
  rw [hx] at hvx
  rw [hy] at hvy
  simp only [VR, DR] at hvy
  have hdr := asD_own hb hk hvx
  subst hi hl
  rw [cut_all] at hdr
  obtain ⟨u, h1, h2⟩ := run_sliceSl (X.ok _ _ ht) hds (X.ok _ _ he) hdr (some (a.eval y)) none none (l.length : Int) l.length none (.inr ⟨kk, by rw [hvy]⟩) (.inl ⟨rfl, rfl, rfl⟩) (.inl ⟨rfl, rfl⟩) (by omega) (by omega) (by omega)
  have e0 : (l.drop ((l.length : Int)).toNat).take ((l.length : Int).toNat - (l.length : Int).toNat) = [] := by simp
  rw [e0] at h2
  have hu : ∃ p c, u = .slice p 0 c := by
    simp only [DR] at h2
    rcases h2 with ⟨⟨p, c, h⟩, _⟩ | ⟨b, off, cap, arr, ty, fz, h, _⟩
    · exact ⟨p, c, h⟩
    · exact ⟨_, _, h⟩
  refine opWp_value (gd_sound htm hg) (v := u) (w' := w) ?_ (hK F w _ (Below.refl _ _) (fun _ h => h) (fun _ h => .inl h) (by simp only [VR, DR]; exact .inl ⟨hu, trivial⟩))
  simp [execOp, h1]
theorem m_copy0 {X : Ctx} {all : Array Oper} {s : St} {o : Oper} {t e : TypeId} {x y : Operand} {td ed : TyD} {α β : Type} {en : α → List D} {z : α} {en2 : β → List D} {z2 : β} {k i n : Nat} {ty ty' : TypeId} {l : List β} (hop : o.op = .call ⟨.builtin .copy, #[x, y], #[t, t]⟩) (hg : gd all s o = some true) (ht : X.T t = some td) (hds : td.desc = .slice e) (he : X.T e = some ed) (hx : s.opd x = .d (.sl ed.size en z [])) (hy : s.opd y = .own k i n ty ed.size) : M1 X all s o (.d .undef) := fun io F a w htm hb hF K Q hK => by
  obtain ⟨dst', op, ty0, pos, after, g⟩ := o
  cases hop
  have hvx := operands_of htm x (by simp [Op.operands, Call.operands])
  have hvy := operands_of htm y (by simp [Op.operands, Call.operands])
  rw [hx] at hvx
  rw [hy] at hvy
  obtain ⟨ii, hi, his, hib, hiz⟩ := (X.ok _ _ he).inf
  have hund := (X.ok _ _ ht).und
  rw [hds] at hund
  have hvx' : ∃ p c, a.eval x = .slice p 0 c := by
    simp only [VR, DR] at hvx
    rcases hvx with ⟨⟨p, c, h⟩, _⟩ | ⟨b, off, cap, arr, ty, fz, h, _⟩
    · exact ⟨p, c, h⟩
    · exact ⟨_, _, h⟩
  have hvy' : ∃ p m c, a.eval y = .slice p m c := by
    simp only [VR] at hvy
    rcases hvy with ⟨_, h, _⟩ | ⟨b, cap, arr, _, h, _⟩
    · exact ⟨_, _, _, h⟩
    · exact ⟨_, _, _, h⟩
  obtain ⟨p, c, e1⟩ := hvx'
  obtain ⟨q, m, c', e2⟩ := hvy'
  have hl : ∀ (x : Addr), (loadCells x 0).run X.P w = .ok #[] w := fun x => by simpa using run_loadCells_list (P := X.P) w x [] (by simp)
  have hrun : (Builtin.copy_ #[t, t] ty0 #[a.eval x, a.eval y]).run X.P w = .ok (goInt 0) w := by
    rw [e1, e2]
    have h0 : Nat.min m 0 = 0 := Nat.min_zero m
    cases p <;> cases q <;> simp [Builtin.copy_, run_underlying hund, Builtin.lenOf, Builtin.firstCells, sizeOf, typeInfo, hi, h0, storeCells, hl]
  exact opWp_value (gd_sound htm hg) (run_copyOp hrun) (hK F w _ (Below.refl _ _) (fun _ h => h) (fun _ h => .inl h) (VR.undef _))
section
variable {ex : Bool} {X : Ctx} {all : Array Oper} {o : Oper} {pre rest : List Oper} {Q : Exit → St → Prop} {s : St} {td ed : TyD} {α : Type} {en : α → List D} {z : α} {l : List α}
theorem isMove_slice {t : TypeId} {x : Operand} {lo hi mx : Option Operand} (h : o.op = .slice t x lo hi mx) : isMove o = false := by unfold isMove; rw [h]; rfl
theorem isAlloc_slice {t : TypeId} {x : Operand} {lo hi mx : Option Operand} (h : o.op = .slice t x lo hi mx) : isAlloc o = false := by unfold isAlloc; rw [h]
theorem isLoad_slice {t : TypeId} {x : Operand} {lo hi mx : Option Operand} (h : o.op = .slice t x lo hi mx) : isLoad o = false := by unfold isLoad; rw [h]; rfl
theorem stepREnd {d : Tmp} {t e : TypeId} {x y : Operand} {k n : Nat} {ty ty' : TypeId} {i : Int} {kk : IntKind} (hop : o.op = .slice t x (some y) none none) (hg : gd all s o = some true) (ht : X.T t = some td) (hds : td.desc = .slice e) (he : X.T e = some ed) (hx : s.opd x = .own k 0 n ty ed.size) (hk : s.blk k = some (.data ty' ed.size en z l)) (hy : s.opd y = .d (.int kk i)) (hi : i = n) (hl : n = l.length) (hdst : o.dst = some d) (hd : dstOk X.N (some d) = true) (r : awpR ex X all pre rest Q (s.put (some d) (.d (.sl ed.size en z [])))) : awpR ex X all (o :: pre) rest Q s := awpR_cons (isMove_slice hop) (isAlloc_slice hop) (isLoad_slice hop) hdst hd (m_sliceEnd hop hg ht hds he hx hk hy hi hl) r
theorem stepCopy0 {d : Tmp} {rest : List Oper} {t e : TypeId} {x y : Operand} {k i n : Nat} {ty : TypeId} (hop : o.op = .call ⟨.builtin .copy, #[x, y], #[t, t]⟩) (hdst : o.dst = some d) (hg : gd all s o = some true) (hd : dstOk X.N (some d) = true) (ht : X.T t = some td) (hds : td.desc = .slice e) (he : X.T e = some ed) (hx : s.opd x = .d (.sl ed.size en z [])) (hy : s.opd y = .own k i n ty ed.size) (r : awpL X all rest Q (s.put (some d) (.d .undef))) : awpL X all (o :: rest) Q s := stepM hdst hd (m_copy0 (β := Unit) (en2 := fun _ => []) (z2 := ()) (ty' := 0) (l := []) hop hg ht hds he hx hy) r
end
/-! ## Where ways meet, in another form -/

def Conv (X : Ctx) (s s' : St) : Prop := ∀ io F a w, SR X io F s a w → ∃ io' F', SR X io' F' s' a w
section
variable {X : Ctx} {s s' s'' : St}
theorem Conv.refl : Conv X s s := fun io F _ _ hs => ⟨io, F, hs⟩
theorem Conv.trans (h : Conv X s s') (k : Conv X s' s'') : Conv X s s'' := fun io F a w hs => by
  obtain ⟨io', F', hs'⟩ := h io F a w hs
  exact k io' F' a w hs'
theorem Conv.cast (t : Nat) {x : D} (y : D) (ht : s.tmps t = .d x) (hle : LeD x y) : Conv X s (s.put (some t) (.d y)) := fun io F a w hs => by
  refine ⟨io, F, hs.kept, fun u => ?_, hs.nt, hs.df, hs.bl, hs.inj, hs.ff, hs.f0, hs.st⟩
  rw [put_keys]
  simp only [St.put]
  cases hb : Nat.beq u t with
  | true =>
    have := Nat.eq_of_beq_eq_true hb
    subst this
    have hv := hs.tm u
    rw [ht] at hv
    simp only [cond_true, VR] at hv ⊢
    exact hle F w _ hv
  | false => simpa using hs.tm u
theorem Conv.frz (k : Nat) {b : Blk} (hk : s.blk k = some b) : Conv X s (s.sub k (some b)) := fun io F a w hs => by
  obtain ⟨F', hs', _⟩ := hs.freeze k hk
  exact ⟨io, F', hs'⟩
theorem awp_meetC {α : Type} {x y : Code} {Q : Exit → St → Prop} (st : α → List (Nat × V) × List (Nat × Blk)) (I : α → Prop) (h2 : ∀ a, I a → awp X y Q (St.of (st a).1 (st a).2)) (h1 : awp X x (andThen (fun s' => ∃ s'', Conv X s' s'' ∧ ∃ a, I a ∧ AllT s'' (st a).1 ∧ AllB s'' (st a).2) Q) s) (hc : ∀ a, (coverT (st a).2 (st a).1 && coverB (st a).2 (st a).2) = true := by exact fun _ => rfl) : awp X (.seq x y) Q s :=
  awp_seq (awp_mono (fun e s h => by
    cases e <;> first | exact h | exact (let ⟨s'', hv, a, hI, ht, hb⟩ := h; fun io F ac w hs => (let ⟨io', F', hs'⟩ := hv io F ac w hs; awp_slots _ _ ht hb (h2 a hI) (hc a) io' F' ac w hs'))) h1)
end
end Go.Vw
