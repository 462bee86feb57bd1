/-
  New variables, stores, new slices. Conditions: the table of types is the program's.
-/
import Derived.Test.YtcblkjmnigbiiaaDoorVH
set_option linter.unusedSimpArgs false
set_option linter.unusedVariables false
namespace Go.Vw
open Go.RowKit

theorem DRA.one {F : Nat → Prop} {w : World} {g : Nat → Option Value} {off : Nat} {cs : List D} (h : DRA F w g off cs) (hg : ∀ i v, g (off + i) = some v → i < cs.length) : ∀ i v, g (off + i) = some v → v.oneCell' = true := fun i v hv => by
  have hi := hg i v hv
  obtain ⟨u, h1, h2, _⟩ := DRA_iff.1 h i _ (List.getElem?_eq_getElem hi)
  rw [hv] at h1; cases h1; exact h2

/-- Writing some cells of a row. -/
theorem run_storeRow {P : Program} {w : World} {t : TypeId} {dd : TyD} (ht : TyOk P t dd) {b o : Nat} {arr : Array Value} {ty : TypeId} (hh : w.heap[b]? = some (.cells arr ty (0, 0))) {v : Value} (hsz : v.cells.size = dd.size) (hl : o + dd.size ≤ arr.size) (h1 : ∀ u ∈ v.cells.toList, u.oneCell' = true) :
    (storeVar t ⟨b, o, none⟩ v).run P w = .ok () (w.setRow b (arr.toList.take o ++ (v.cells.toList ++ arr.toList.drop (o + v.cells.toList.length))).toArray) := by
  have := run_storeCells_at P b o ty v.cells.toList 0 arr w hh (by simp; omega) h1
  simp only [storeVar, Sem.run_bind, ht.runS, Result.andThen_ok]
  rw [if_neg (by simp [hsz])]
  rw [this]
  simp

def putRow (arr : Array Value) (o : Nat) (xs : List Value) : Array Value := (arr.toList.take o ++ (xs ++ arr.toList.drop (o + xs.length))).toArray
theorem putRow_size {arr : Array Value} {o : Nat} {xs : List Value} (h : o + xs.length ≤ arr.size) : (putRow arr o xs).size = arr.size := by simp [putRow]; omega
theorem putRow_get {arr : Array Value} {o : Nat} {xs : List Value} (h : o + xs.length ≤ arr.size) (j : Nat) : (putRow arr o xs)[j]? = if o ≤ j ∧ j < o + xs.length then xs[j - o]? else arr[j]? := by
  unfold putRow
  rw [List.getElem?_toArray]
  have hA : (arr.toList.take o).length = o := by simp; omega
  by_cases h1 : j < o
  · rw [List.getElem?_append_left (by omega), List.getElem?_take, if_pos h1, if_neg (by omega)]; simp
  · rw [List.getElem?_append_right (by omega), hA]
    by_cases h2 : j - o < xs.length
    · rw [List.getElem?_append_left h2, if_pos (by omega)]
    · rw [List.getElem?_append_right (by omega), List.getElem?_drop, if_neg (by omega)]
      rw [show o + xs.length + (j - o - xs.length) = j by omega]; simp

def openD : List D → (List D → Ev (List D)) → Ev (List D)
  | [], K => K []
  | c :: r, K => openD r fun r' => K (c :: r')
theorem openD_eq : ∀ (l : List D) (K : List D → Ev (List D)), openD l K = K l
  | [], K => rfl
  | c :: r, K => by simp only [openD]; rw [openD_eq r]

/-- Some cells put in the place of others. -/
def putL {α : Type 1} : List α → Nat → List α → Option (List α)
  | cs, 0, [] => some cs
  | _ :: cs, 0, x :: xs => match putL cs 0 xs with | some r => some (x :: r) | none => none
  | c :: cs, o + 1, xs => match putL cs o xs with | some r => some (c :: r) | none => none
  | [], _, _ => none
theorem putL_spec {α : Type 1} : ∀ {cs : List α} {o : Nat} {xs r : List α}, putL cs o xs = some r → r.length = cs.length ∧ o + xs.length ≤ cs.length ∧ ∀ j, r[j]? = if o ≤ j ∧ j < o + xs.length then xs[j - o]? else cs[j]?
  | cs, 0, [], r, h => by simp [putL] at h; subst h; simp
  | c :: cs, 0, x :: xs, r, h => by
    simp only [putL] at h
    split at h
    · rename_i r' h'
      simp only [Option.some.injEq] at h; subst h
      obtain ⟨h1, h2, h3⟩ := putL_spec h'
      refine ⟨by simp [h1], by simp; omega, fun j => ?_⟩
      cases j with
      | zero => simp
      | succ j =>
        have := h3 j
        simp only [List.getElem?_cons_succ, List.length_cons, Nat.zero_le, true_and, Nat.sub_zero] at this ⊢
        rw [this]
        by_cases hj : j < 0 + xs.length
        · rw [if_pos hj, if_pos (by omega)]
        · rw [if_neg hj, if_neg (by omega)]
    · cases h
  | c :: cs, o + 1, xs, r, h => by
    have h : (match putL cs o xs with | some r => some (c :: r) | none => none) = some r := by cases xs <;> simpa only [putL] using h
    split at h
    · rename_i r' h'
      simp only [Option.some.injEq] at h; subst h
      obtain ⟨h1, h2, h3⟩ := putL_spec h'
      refine ⟨by simp [h1], by simp; omega, fun j => ?_⟩
      cases j with
      | zero => simp
      | succ j =>
        have := h3 j
        simp only [List.getElem?_cons_succ]
        rw [this]
        by_cases hj : o ≤ j ∧ j < o + xs.length
        · rw [if_pos hj, if_pos (by omega)]; congr 1; omega
        · rw [if_neg hj, if_neg (by omega)]
    · cases h
  | [], 0, x :: xs, r, h => by simp [putL] at h
  | [], o + 1, xs, r, h => by cases xs <;> simp [putL] at h

theorem VRA.put {io : Keys} {F : Nat → Prop} {w : World} {arr : Array Value} {cs ys r : List V} {o : Nat} {us : List Value} (h : VRA io F w (fun j => arr[j]?) 0 cs) (hl : us.length = ys.length) (k : VRA io F w (fun j => us[j]?) 0 ys) (e : putL cs o ys = some r) (hsz : o + us.length ≤ arr.size) : VRA io F w (fun j => (putRow arr o us)[j]?) 0 r := by
  obtain ⟨h1, h2, h3⟩ := putL_spec e
  rw [VRA_iff] at h k ⊢
  intro j c hj
  rw [h3 j] at hj
  simp only [Nat.zero_add] at h k ⊢
  rw [putRow_get hsz]
  split at hj
  · rename_i hc
    rw [if_pos (by omega)]
    exact k _ c hj
  · rename_i hc
    rw [if_neg (by omega)]
    exact h _ c hj

/-- The operations on variables of the call's own: condition, value, state. -/
def evalE (T : TypeId → Option TyD) (s : St) (dst : Option Tmp) : Op → Option (Option V × St)
  | .alloc e => match dst, T e with
    | some d, some ed => match (V.d (D.ofV ed.zero)).storable with
      | true => some (some (.ptr d 0), s.new d (.box e (V.d (D.ofV ed.zero)).cells))
      | false => none
    | _, _ => none
  | .box e x => match dst with
    | some d => match (s.opd x).storable with
      | true => some (some (.ptr d 0), s.new d (.box e (V.subL d none (s.opd x).cells)))
      | false => none
    | none => none
  | .store t addr x => match T t, s.opd addr with
    | some td, .ptr k o => match s.blk k with
      | some (.box ty cs) => match (s.opd x).storable && Nat.beq (s.opd x).cells.length td.size with
        | true => match putL cs o (s.opd x).cells with
          | some cs' => some (none, s.withBlk k (.box ty cs'))
          | none => none
        | false => none
      | _ => none
    | _, _ => none
  | _ => none

theorem box_cells {io : Nat → Option Nat} {F : Nat → Prop} {w : World} {s : St} {d : Nat} {e : TypeId} {x : V} {v : Value} (cs : List V) (hx : VRA (s.keys io) F w (fun i => v.cells[i]?) 0 cs) : VRA ((s.new d (.box e (V.subL d none cs))).keys (updio io d (some w.heap.size))) F w (fun i => v.cells[i]?) 0 (V.subL d none cs) := by
  refine VRA.sub (k := d) (ob := none) (F := F) (fun j hj => ⟨updio_ne io _ hj, ?_⟩) (fun _ h => h) subNone _ _ _ hx
  show s.ln j ≤ (s.new d _).ln j
  unfold St.new
  rw [← sub_ln (s := s) (ob := none) hj]
  exact withBlk_ln (by rw [sub_ln_same]; exact Nat.zero_le _) j

theorem V.sub_d (k : Nat) (ob : Option Blk) (l : List D) : V.subL k ob (l.map V.d) = l.map V.d := by
  induction l with
  | nil => rfl
  | cons x l ih => simp [V.subL, V.sub, ih]

theorem e_eff {X : Ctx} {T : TypeId → Option TyD} (hT : TabOk X.P T) {all : Array Oper} {s s' : St} {o : Oper} {x : Option V} (hg : gd all s o = some true) (hd : dstOk X.N o.dst = true) (hK : ∀ d, o.dst = some d → X.K.contains d = false) (h : evalE T s o.dst o.op = some (x, s')) : E1 X all s o (match x with | some y => s'.put o.dst y | none => s'.put o.dst (.d .undef)) := by
  intro io F a w hs K Q hQ
  have hw := gd_sound (fun t _ => hs.tm t) hg
  obtain ⟨dst, op, ty, pos, after, guard⟩ := o
  cases op <;> simp only [evalE] at h <;> try (cases h; done)
  case alloc e =>
    cases dst with | none => cases h | some d => ?_
    split at h
    · rename_i d' ed hd' hed
      cases hd'
      split at h
      · rename_i hst
        simp only [Option.some.injEq, Prod.mk.injEq] at h; obtain ⟨rfl, rfl⟩ := h
        have hkk : d ∉ X.K := fun hm => by have := hK d rfl; simp [List.contains_eq_mem, hm] at this
        obtain ⟨hz1, hz2⟩ := VR.cells (io := s.keys io) (F := F) (w := w) hst (v := ed.zero) (by simp only [VR]; exact DR.ofV F w _)
        have hb := box_cells (d := d) (e := e) (x := V.d (D.ofV ed.zero)) _ hz2
        rw [V.cells_d, V.sub_d] at hb
        have hn := hs.newBlk d hkk e ed.zero.cells (.box e (V.d (D.ofV ed.zero)).cells) (.inr ⟨_, rfl, by rw [V.cells_d]; exact hb⟩)
        refine opWp_value hw (w' := w.alloc (.cells ed.zero.cells e)) (v := .pointer (some ⟨w.heap.size, 0, none⟩)) ?_ (hQ _ F _ _ (hn.put (dstOk_sound hd) ?_))
        · simp [execOp, Instr.alloc, (hT _ _ hed).runZ, newVar, newRow]
        · simp only [VR]; exact ⟨_, updio_same _ _ _, rfl⟩
      · cases h
    · cases h
  case box e y =>
    cases dst with | none => cases h | some d => ?_
    · split at h <;> rename_i d' hd' <;> cases hd'
      split at h
      · rename_i hst
        simp only [Option.some.injEq, Prod.mk.injEq] at h; obtain ⟨rfl, rfl⟩ := h
        have hkk : d ∉ X.K := fun hm => by have := hK d rfl; simp [List.contains_eq_mem, hm] at this
        obtain ⟨hz1, hz2⟩ := VR.cells hst (hs.opd y)
        have hb := box_cells (d := d) (e := e) (x := s.opd y) _ hz2
        have hn := hs.newBlk d hkk e (a.eval y).cells (.box e (V.subL d none (s.opd y).cells)) (.inr ⟨_, rfl, hb⟩)
        refine opWp_value hw (w' := w.alloc (.cells (a.eval y).cells e)) (v := .pointer (some ⟨w.heap.size, 0, none⟩)) ?_ (hQ _ F _ _ (hn.put (dstOk_sound hd) ?_))
        · simp [execOp, Instr.box, newVar, newRow]
        · simp only [VR]; exact ⟨_, updio_same _ _ _, rfl⟩
      · cases h
  case store t addr y =>
    split at h
    · rename_i td k o htd haddr
      have ha := hs.opd addr
      rw [haddr] at ha
      simp only [VR] at ha
      obtain ⟨b, hb, ea⟩ := ha
      split at h
      · rename_i ty' cs hk
        split at h
        · rename_i hst
          simp only [Bool.and_eq_true] at hst
          have hl := Nat.eq_of_beq_eq_true hst.2
          split at h
          · rename_i cs' hput
            simp only [Option.some.injEq, Prod.mk.injEq] at h; obtain ⟨rfl, rfl⟩ := h
            obtain ⟨hz1, hz2⟩ := VR.cells hst.1 (hs.opd y)
            have hbr := hs.bl k _ hk
            simp only [BR] at hbr
            obtain ⟨b', arr, hb', hF, hA, hh, hr⟩ := hbr
            rw [show (s.keys io).io k = io k from rfl] at hb hb'
            rw [hb'] at hb; cases hb
            obtain ⟨p1, p2, p3⟩ := putL_spec hput
            have hle : cs.length ≤ arr.size := by
              rcases Nat.lt_or_ge arr.size cs.length with h | h
              · obtain ⟨v, g1, _⟩ := VRA_iff.1 hr (cs.length - 1) _ (List.getElem?_eq_getElem (by omega))
                have := (Array.getElem?_eq_some_iff.1 g1).1
                omega
              · exact h
            have hus : VRA (s.keys io) F w (fun j => (a.eval y).cells.toList[j]?) 0 (s.opd y).cells := VRA.congr (fun i _ => by simp) hz2
            have hone : ∀ u ∈ (a.eval y).cells.toList, u.oneCell' = true := fun u hu => by
              obtain ⟨i, hi, e⟩ := List.mem_iff_getElem.1 hu
              have hi' : i < (s.opd y).cells.length := by simp at hi; omega
              obtain ⟨v, g1, g2, _⟩ := VRA_iff.1 hus i _ (List.getElem?_eq_getElem hi')
              simp only [Nat.zero_add] at g1
              rw [List.getElem?_eq_getElem hi] at g1
              cases g1; rw [← e]; exact g2
            have hrun := run_storeRow (P := X.P) (hT _ _ htd) (o := o) hh (v := a.eval y) (by omega) (by omega) hone
            have hsz' : o + (a.eval y).cells.toList.length ≤ arr.size := by simp; omega
            refine opWp_skip hw (w' := w.setRow b (putRow arr o (a.eval y).cells.toList)) ?_ (hQ _ F _ _ (SR.put (hs.write (by rw [hk]; simp) hb' hF hA hh (putRow_size hsz') (nb := .box ty' cs') (by rw [ln_of hk]; exact Nat.le_refl _) (.inr (.inl ⟨_, rfl, VRA.put hr (by simp; omega) hus hput hsz'⟩))) (dstOk_sound hd) (VR.undef _)))
            simp only [execOp, Instr.storeAt, ea, Instr.sureAddr, Sem.run_bind, Sem.run_pure, Result.andThen_ok, hrun]
            rfl
          · cases h
        · cases h
      · cases h
    · cases h

/-- An element of a list is written, or some of its cells. -/
theorem e_store {X : Ctx} {T : TypeId → Option TyD} (hT : TabOk X.P T) {all : Array Oper} {s : St} {t ty ety : TypeId} {addr x : Operand} {pos : String} {after : Array Edge} {g : Option (Nat × Bool)} {td : TyD} {k sz i f : Nat} {α : Type} {e : α → List D} {z : α} {l : List α} {y : D} {cs : List D} {a' : α}
    (hg : gd all s ⟨none, .store t addr x, ty, pos, after, g⟩ = some true) (ht : T t = some td) (ha : s.opd addr = .eptr k sz i f) (hk : s.blk k = some (.data ety sz e z l)) (hx : s.opd x = .d y) (hst : ((V.d y).storable && Nat.beq y.cells.length td.size) = true) (hp : putL (e (l.getD i z)) f y.cells = some cs) (hle : LeL cs (e a')) (hi : i < l.length) :
    E1 X all s ⟨none, .store t addr x, ty, pos, after, g⟩ (s.withBlk k (.data ety sz e z (l.set i a'))) := by
  intro io F a w hs K Q hQ
  have hw := gd_sound (fun t _ => hs.tm t) hg
  simp only [Bool.and_eq_true] at hst
  have hl := Nat.eq_of_beq_eq_true hst.2
  have hv := hs.opd x
  rw [hx] at hv
  simp only [VR] at hv
  obtain ⟨hz1, hz2⟩ := DR.cells hst.1 hv
  have hb := hs.opd addr
  rw [ha] at hb
  simp only [VR] at hb
  obtain ⟨b, hb, ea⟩ := hb
  have hbr := hs.bl k _ hk
  simp only [BR] at hbr
  rcases hbr with ⟨_, rfl⟩ | ⟨b', arr, hb', hF, hA, hh, hr⟩
  · simp at hi
  rw [hb'] at hb; cases hb
  obtain ⟨q1, q2⟩ := hr i (l.getD i z) (by rw [List.getElem?_eq_getElem hi, List.getD_eq_getElem?_getD, List.getElem?_eq_getElem hi]; rfl)
  rw [Nat.zero_add] at q2
  obtain ⟨p1, p2, p3⟩ := putL_spec hp
  have hle0 : ∀ j, j < sz → i * sz + j < arr.size := fun j hj => by
    obtain ⟨v, g1, _⟩ := DRA_iff.1 q2 j _ (List.getElem?_eq_getElem (by omega))
    exact (Array.getElem?_eq_some_iff.1 g1).1
  have hfit : i * sz + f + (a.eval x).cells.toList.length ≤ arr.size := by
    by_cases hz : (a.eval x).cells.toList.length = 0
    · rw [hz]
      by_cases hf : f = 0
      · subst hf
        by_cases hsz : sz = 0
        · subst hsz; simp
        · have := hle0 0 (by omega); omega
      · have := hle0 (f - 1) (by omega); omega
    · have := hle0 (f + (a.eval x).cells.toList.length - 1) (by simp only [Array.length_toList] at hz ⊢; omega)
      omega
  have hone : ∀ u ∈ (a.eval x).cells.toList, u.oneCell' = true := fun u hu => by
    obtain ⟨j, hj, e'⟩ := List.mem_iff_getElem.1 hu
    have hj' : j < y.cells.length := by simp at hj; omega
    obtain ⟨v, g1, g2, _⟩ := DRA_iff.1 hz2 j _ (List.getElem?_eq_getElem hj')
    simp only [Nat.zero_add] at g1
    have : (a.eval x).cells[j]? = some u := by rw [← e']; simp at hj; simp [hj]
    rw [this] at g1; cases g1; exact g2
  have hrun := run_storeRow (P := X.P) (hT _ _ ht) (o := i * sz + f) hh (v := a.eval x) (by omega) (by simp at hfit; omega) hone
  refine opWp_skip hw (w' := w.setRow b (putRow arr (i * sz + f) (a.eval x).cells.toList)) ?_ (hQ _ F _ _ (SR.put (dst := none) (hs.write (by rw [hk]; simp) hb' hF hA hh (putRow_size hfit) (nb := .data ety sz e z (l.set i a')) (by rw [ln_of hk]; simp [Blk.ln]) (.inl ⟨sz, α, e, z, l.set i a', rfl, fun j c hj => ?_⟩)) (fun d hd => by cases hd) (VR.undef Go.undef)))
  · simp only [execOp, Instr.storeAt, ea, Instr.sureAddr, Sem.run_bind, Sem.run_pure, Result.andThen_ok, hrun]
    rfl
  · rw [Nat.zero_add]
    by_cases hji : i = j
    · subst hji
      rw [List.getElem?_set_self hi] at hj
      simp only [Option.some.injEq] at hj; subst hj
      refine ⟨hle.1.symm.trans (p1.trans q1), hle.2 F w _ _ ?_⟩
      rw [DRA_iff]
      intro m c hm
      rw [p3 m] at hm
      rw [putRow_get hfit]
      split at hm
      · rename_i hc
        rw [if_pos (by simp; omega)]
        obtain ⟨v, g1, g2⟩ := DRA_iff.1 hz2 _ c hm
        refine ⟨v, ?_, g2⟩
        rw [show i * sz + m - (i * sz + f) = m - f by omega]
        simpa using g1
      · rename_i hc
        rw [if_neg (by simp; omega)]
        exact DRA_iff.1 q2 m c hm
    · rw [List.getElem?_set_ne hji] at hj
      obtain ⟨g1, g2⟩ := hr j c hj
      refine ⟨g1, DRA.congr (fun m hm => ?_) g2⟩
      rw [Nat.zero_add, putRow_get hfit, if_neg]
      have hxl : f + (a.eval x).cells.toList.length ≤ sz := by simp; omega
      intro hc
      have hm' : m < sz := by omega
      rcases Nat.lt_or_gt_of_ne hji with h | h
      · have : (i + 1) * sz ≤ j * sz := Nat.mul_le_mul_right _ h
        rw [Nat.add_mul] at this; omega
      · have : (j + 1) * sz ≤ i * sz := Nat.mul_le_mul_right _ h
        rw [Nat.add_mul] at this; omega

/-- A slice of the call's own is put into a list. -/
theorem e_storeV {X : Ctx} {T : TypeId → Option TyD} (hT : TabOk X.P T) {all : Array Oper} {s : St} {t ty ety : TypeId} {addr x : Operand} {pos : String} {after : Array Edge} {g : Option (Nat × Bool)} {td : TyD} {k i k2 o2 n2 : Nat} {ty2 : TypeId} {sz2 : Nat} {α : Type} {e : α → List D} {z : α} {l : List α}
    (hg : gd all s ⟨none, .store t addr x, ty, pos, after, g⟩ = some true) (ht : T t = some td) (ha : s.opd addr = .eptr k 1 i 0) (hk : s.blk k = some (.data ety 1 e z l)) (hx : s.opd x = .own k2 o2 n2 ty2 sz2) (hsz1 : Nat.beq td.size 1 = true) (hi : i < l.length) :
    E1 X all s ⟨none, .store t addr x, ty, pos, after, g⟩ (s.withBlk k (.hole ety 1 e z l i (.own k2 o2 n2 ty2 sz2))) := by
  intro io F a w hs K Q hQ
  have hw := gd_sound (fun t _ => hs.tm t) hg
  have hl := Nat.eq_of_beq_eq_true hsz1
  have hv := hs.opd x
  rw [hx] at hv
  have hcell : (a.eval x).cells = #[a.eval x] ∧ (a.eval x).oneCell' = true := by
    simp only [VR] at hv
    rcases hv with ⟨_, e', _⟩ | ⟨b, cap, arr, _, e', _⟩ <;> rw [e'] <;> exact ⟨rfl, rfl⟩
  have hb := hs.opd addr
  rw [ha] at hb
  simp only [VR] at hb
  obtain ⟨b, hb, ea⟩ := hb
  have hbr := hs.bl k _ hk
  simp only [BR] at hbr
  rcases hbr with ⟨_, rfl⟩ | ⟨b', arr, hb', hF, hA, hh, hr⟩
  · simp at hi
  rw [hb'] at hb; cases hb
  obtain ⟨q1, q2⟩ := hr i (l.getD i z) (by rw [List.getElem?_eq_getElem hi, List.getD_eq_getElem?_getD, List.getElem?_eq_getElem hi]; rfl)
  rw [Nat.zero_add, Nat.mul_one] at q2
  have hlt : i < arr.size := by
    obtain ⟨v, g1, _⟩ := DRA_iff.1 q2 0 _ (List.getElem?_eq_getElem (by omega))
    exact (Array.getElem?_eq_some_iff.1 g1).1
  have hfit : i + (a.eval x).cells.toList.length ≤ arr.size := by rw [hcell.1]; simp; omega
  have hrun := run_storeRow (P := X.P) (hT _ _ ht) (o := i) hh (v := a.eval x) (by rw [hcell.1, hl]; rfl) (by omega) (by rw [hcell.1]; simpa using hcell.2)
  have hi' : ∀ j, ((s.withBlk k (.hole ety 1 e z l i (.own k2 o2 n2 ty2 sz2))).keys io).io j = (s.keys io).io j := fun j => rfl
  refine opWp_skip hw (w' := w.setRow b (putRow arr i (a.eval x).cells.toList)) ?_ (hQ _ F _ _ (SR.put (dst := none) (hs.write (by rw [hk]; simp) hb' hF hA hh (putRow_size hfit) (nb := .hole ety 1 e z l i (.own k2 o2 n2 ty2 sz2)) (by rw [ln_of hk]; simp [Blk.ln]) (.inr (.inr ⟨1, α, e, z, l, i, .own k2 o2 n2 ty2 sz2, rfl, fun j c hj hc => ?_, rfl, a.eval x, ?_, hcell.2, hv⟩))) (fun d hd => by cases hd) (VR.undef Go.undef)))
  · simp only [execOp, Instr.storeAt, ea, Instr.sureAddr, Sem.run_bind, Sem.run_pure, Result.andThen_ok, Nat.mul_one, Nat.add_zero, hrun]
    rfl
  · obtain ⟨g1, g2⟩ := hr j c hc
    refine ⟨g1, DRA.congr (fun m hm => ?_) g2⟩
    rw [Nat.zero_add, putRow_get hfit, if_neg]
    rw [hcell.1]
    simp; omega
  · show (putRow arr i (a.eval x).cells.toList)[i]? = _
    rw [putRow_get hfit, if_pos (by rw [hcell.1]; simp)]
    rw [hcell.1]; simp

/-- A hole whose value has become data. -/
theorem SR.fill {X : Ctx} {io : Nat → Option Nat} {F : Nat → Prop} {s : St} {a : Act} {w : World} (hs : SR X io F s a w) {k : Nat} {ty : TypeId} {sz : Nat} {α : Type} {e : α → List D} {z : α} {l : List α} {i : Nat} {y : D} {a' : α} (hk : s.blk k = some (.hole ty sz e z l i (.d y))) (hle : LeL [y] (e a')) (hi : i < l.length) :
    SR X io F (s.withBlk k (.data ty sz e z (l.set i a'))) a w := by
  have hbr := hs.bl k _ hk
  simp only [BR] at hbr
  obtain ⟨b, arr, h1, h2, h3, h4, h0, rfl, u, q1, q2, q3⟩ := hbr
  refine hs.setBlk (by rw [ln_of hk]; simp [Blk.ln]) ?_ fun j c hj hb e1 e2 => hj (hs.inj j k c hb (by rw [hk]; simp) e1 e2)
  simp only [BR]
  refine .inr ⟨b, arr, h1, h2, h3, h4, fun j c hc => ?_⟩
  by_cases hji : i = j
  · subst hji
    rw [List.getElem?_set_self hi] at hc
    simp only [Option.some.injEq] at hc; subst hc
    refine ⟨hle.1.symm, hle.2 F w _ _ ?_⟩
    simp only [VR] at q3
    rw [Nat.zero_add, Nat.mul_one]
    simp only [DRA, and_true]
    exact ⟨u, q1, q2, q3⟩
  · rw [List.getElem?_set_ne hji] at hc
    have := h0 j c (fun h => hji h.symm) hc
    rw [Nat.zero_add]; exact this
end Go.Vw
