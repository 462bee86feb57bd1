/-
  New slices, append, literals, bytes and strings. Conditions: the table of types is the program's.
-/
import Derived.Test.YtcblkjmnigbiiaaDoorVI
set_option linter.unusedSimpArgs false
set_option linter.unusedVariables false
namespace Go.Vw
open Go.RowKit

theorem flat_get (z : List Value) : ∀ (n j : Nat), j < n * z.length → (List.replicate n z).flatten[j]? = z[j % z.length]?
  | 0, j, h => by simp at h
  | n + 1, j, h => by
    simp only [List.replicate_succ, List.flatten_cons]
    by_cases h' : j < z.length
    · rw [List.getElem?_append_left h', Nat.mod_eq_of_lt h']
    · rw [List.getElem?_append_right (by omega), flat_get z n (j - z.length) (by rw [Nat.succ_mul] at h; omega), ← Nat.mod_eq_sub_mod (by omega)]

theorem range_zero (z : Array Value) (hp : 0 < z.size) (n : Nat) : ((Array.range (n * z.size)).map fun j => z[j % z.size]!) = (List.replicate n z.toList).flatten.toArray := by
  apply Array.ext'
  simp only [Array.toList_map, Array.toList_range]
  apply List.ext_getElem?
  intro j
  by_cases hj : j < n * z.size
  · have hm : j % z.size < z.size := Nat.mod_lt _ hp
    rw [List.getElem?_map, List.getElem?_range hj, flat_get z.toList n j (by simpa using hj)]
    simp [hm, getElem!_pos]
  · rw [List.getElem?_eq_none (by simp; omega), List.getElem?_eq_none (by simp; omega)]

/-- The zero value's cells, many times over. -/
theorem lra_replicate {F : Nat → Prop} {w : World} {z : Array Value} {zc : List D} {α : Type} {en : α → List D} {z0 : α} {sz : Nat} (hs : z.size = sz) (hl : zc.length = sz) (hp : 0 < sz) (hz : DRA F w (fun i => z[i]?) 0 zc) (le : LeL zc (en z0)) (n m : Nat) (hnm : n ≤ m) : LRA F w (fun j => (List.replicate m z.toList).flatten.toArray[j]?) 0 sz en (List.replicate n z0) := fun i a hi => by
  have hlt : i < n := by have := (List.getElem?_eq_some_iff.1 hi).1; simpa using this
  have ha : a = z0 := by rw [List.getElem?_replicate, if_pos hlt] at hi; cases hi; rfl
  subst ha
  refine ⟨le.1.symm.trans hl, DRA.congr (fun j hj => ?_) (le.2 F w _ _ hz)⟩
  have hj' : j < sz := by have := le.1; omega
  rw [Nat.zero_add, Nat.zero_add, List.getElem?_toArray, flat_get z.toList m (i * sz + j) (by
    simp only [Array.length_toList, hs]
    have : (i + 1) * sz ≤ m * sz := Nat.mul_le_mul_right _ (by omega)
    rw [Nat.add_mul] at this; omega)]
  simp only [Array.length_toList, hs]
  rw [Nat.add_comm, Nat.add_mul_mod_self_right, Nat.mod_eq_of_lt hj']
  simp

def zeroOk (ed : TyD) : Bool := (V.d (D.ofV ed.zero)).storable && Nat.beq (D.ofV ed.zero).cells.length ed.size && Nat.blt 0 ed.size
theorem zeroOk_sound {ed : TyD} (h : zeroOk ed = true) {F : Nat → Prop} {w : World} : ed.zero.cells.size = ed.size ∧ (D.ofV ed.zero).cells.length = ed.size ∧ 0 < ed.size ∧ DRA F w (fun i => ed.zero.cells[i]?) 0 (D.ofV ed.zero).cells := by
  simp only [zeroOk, Bool.and_eq_true] at h
  obtain ⟨⟨h1, h2⟩, h3⟩ := h
  have h2 := Nat.eq_of_beq_eq_true h2
  have h3 : 0 < ed.size := by simpa [Nat.blt_eq] using h3
  obtain ⟨g1, g2⟩ := DR.cells (F := F) (w := w) h1 (DR.ofV F w ed.zero)
  exact ⟨g1.trans h2, h2, h3, g2⟩

theorem notMem {K : List Nat} {d : Nat} (h : K.contains d = false) : d ∉ K := fun hm => by simp [List.contains_eq_mem, hm] at h

theorem e_make {X : Ctx} {T : TypeId → Option TyD} (hT : TabOk X.P T) {all : Array Oper} {s : St} {t e ty : TypeId} {lo co : Operand} {pos : String} {after : Array Edge} {g : Option (Nat × Bool)} {d : Tmp} {td ed : TyD} {n m : Int} {mm : Bool} {C : Prop} {j : Nat} {α : Type} {en : α → List D} {z : α}
    (hg : gd all s ⟨some d, .makeSlice t lo co, ty, pos, after, g⟩ = some true) (hd : dstOk X.N (some d) = true) (hK : X.K.contains d = false) (ht : T t = some td) (hds : td.desc = .slice e) (he : T e = some ed) (hl : intOfV (s.opd lo) = some n) (hc : intOfV (s.opd co) = some m) (hn : natOf mm n = some (C, ⟨j⟩)) (hz : zeroOk ed = true) (le : LeL (D.ofV ed.zero).cells (en z)) (hC : C) (hb : n ≤ m ∧ m * ed.bytes ≤ 140737488355328 ∧ m ≤ 9223372036854775807) :
    E1 X all s ⟨some d, .makeSlice t lo co, ty, pos, after, g⟩ ((s.new d (.data e ed.size en z (List.replicate j z))).put (some d) (.own d 0 j e ed.size)) := by
  intro io F a w hs K Q hQ
  have hw := gd_sound (fun t _ => hs.tm t) hg
  obtain ⟨g0, g1⟩ := natOf_spec hn hC
  simp only at g1
  obtain ⟨z1, z2, z3, z4⟩ := zeroOk_sound (F := F) (w := w) hz
  obtain ⟨b1, b2, b3⟩ := hb
  obtain ⟨k1, e1⟩ := intOfV_sound hl (hs.opd lo)
  obtain ⟨k2, e2⟩ := intOfV_sound hc (hs.opd co)
  have hu := (hT _ _ ht).runU w
  rw [hds] at hu
  have wl : IntKind.i64.wrap n = n := IntWalk.i64_in n (by omega)
  have wc : IntKind.i64.wrap m = m := IntWalk.i64_in m (by omega)
  obtain ⟨i, hi, his, hib, hiz⟩ := (hT _ _ he).inf
  have hrow : ((Array.range (m.toNat * ed.size)).map fun j => ed.zero.cells[j % ed.zero.cells.size]!) = (List.replicate m.toNat ed.zero.cells.toList).flatten.toArray := by
    rw [← z1]; exact range_zero _ (by omega) _
  have hrun : (Instr.makeSlice t (a.eval lo) (a.eval co)).run X.P w = .ok (.slice (some ⟨w.heap.size, 0, none⟩) n.toNat m.toNat) (w.alloc (.cells (List.replicate m.toNat ed.zero.cells.toList).flatten.toArray e)) := by
    have hnb : ¬ ((ed.bytes : Int) * m > 2 ^ 48) := by
      have : (ed.bytes : Int) * m = m * ed.bytes := Int.mul_comm _ _
      omega
    simp only [Instr.makeSlice, Sem.run_bind, hu, Result.andThen_ok, e1, e2, asInt, asIntOf, Sem.run_pure, typeInfo, run_program, hi, hib, wl, wc]
    have hif : ¬ (((decide (m < 0) || decide ((ed.bytes : Int) * m > 2 ^ 48)) || decide (n < 0) || decide (n > m)) = true) := by
      simp; omega
    rw [if_neg hif]
    simp only [Sem.run_bind, run_askRoom, Result.andThen_ok, (hT _ _ he).runS]
    by_cases hz : m.toNat * ed.size = 0
    · simp only [hz, if_true, Sem.run_pure, Result.andThen_ok]
      have : m.toNat = 0 := by
        rcases Nat.mul_eq_zero.1 hz with h | h
        · exact h
        · omega
      simp [this, newRow]
      congr 2
      apply Array.ext'
      simp
    · simp only [hz, if_false, Sem.run_bind, (hT _ _ he).runZ, Result.andThen_ok, Sem.run_pure, hrow]
      simp [newRow]
  have hlen : (List.replicate m.toNat ed.zero.cells.toList).flatten.length = m.toNat * ed.size := by simp [z1]
  have hnb := hs.newBlk d (notMem hK) e (List.replicate m.toNat ed.zero.cells.toList).flatten.toArray (.data e ed.size en z (List.replicate j z)) (.inl ⟨_, _, _, _, _, rfl, lra_replicate z1 z2 z3 z4 le j m.toNat (by omega)⟩)
  refine opWp_value hw (w' := w.alloc (.cells (List.replicate m.toNat ed.zero.cells.toList).flatten.toArray e)) (v := .slice (some ⟨w.heap.size, 0, none⟩) n.toNat m.toNat) (by simp only [execOp, Sem.run_bind, hrun, Result.andThen_ok]; rfl) (hQ _ F _ _ (hnb.put (dstOk_sound hd) ?_))
  simp only [VR]
  refine .inr ⟨w.heap.size, m.toNat, _, updio_same _ _ _, by rw [g1, Nat.zero_mul], by omega, by unfold maxLen; omega, heap_alloc_new w _, by simp [z1], ?_⟩
  show 0 + j ≤ (s.new d _).ln d
  rw [show (s.new d (.data e ed.size en z (List.replicate j z))).ln d = _ from ln_of withBlk_same]
  simp [Blk.ln]

/-! ## What is appended -/

/-- A slice whose elements are e of the members of l, wherever it lies. -/
def SrcT (F : Nat → Prop) (w : World) (u : Value) (sz : Nat) {α : Type} (e : α → List D) (l : List α) : Prop :=
  ((∃ p, u = .slice p 0 0) ∧ l = []) ∨ ∃ b off c arr ty fz, u = .slice (some ⟨b, off, none⟩) l.length c ∧ w.heap[b]? = some (.cells arr ty fz) ∧ LRA F w (fun j => arr[j]?) off sz e l

theorem src_of_data {F : Nat → Prop} {w : World} {u : Value} {sz : Nat} {α : Type} {e : α → List D} {z : α} {l : List α} (h : DR F w (.sl sz e z l) u) : SrcT F w u sz e l := by
  simp only [DR] at h
  rcases h with h | ⟨b, off, cap, arr, ty, fz, h1, h2, h3, h4, h5⟩
  · exact .inl h
  · exact .inr ⟨b, off, cap, arr, ty, fz, h1, h4, h5⟩

/-- The values of a list's cells. -/
theorem lra_vals {F : Nat → Prop} {w : World} {g : Nat → Option Value} {sz : Nat} {α : Type} {e : α → List D} : ∀ (l : List α) (off : Nat), LRA F w g off sz e l → ∃ news : List Value, news.length = l.length * sz ∧ (∀ j, j < news.length → g (off + j) = news[j]?) ∧ LRA F w (fun j => news[j]?) 0 sz e l ∧ ∀ u ∈ news, u.oneCell' = true
  | [], off, h => ⟨[], by simp, by simp, fun i a hi => by simp at hi, by simp⟩
  | a :: l, off, h => by
    obtain ⟨h1, h2⟩ := h 0 a (by simp)
    rw [Nat.zero_mul, Nat.add_zero] at h2
    obtain ⟨us, g1, g2, g3⟩ := row_vals (io := ⟨fun _ => none, fun _ => 0⟩) (DRA.toV h2)
    have hul : us.length = sz := by simpa [h1] using g1
    obtain ⟨news, n1, n2, n3, n4⟩ := lra_vals l (off + sz) (fun i b hi => by
      have := h (i + 1) b (by simpa using hi)
      refine ⟨this.1, ?_⟩
      rw [show off + sz + i * sz = off + (i + 1) * sz by rw [Nat.add_mul]; omega]; exact this.2)
    have g3' : DRA F w (fun i => us[i]?) 0 (e a) := VRA.ofD (allD_of _) g3
    refine ⟨us ++ news, by simp [hul, n1, Nat.add_mul]; omega, fun j hj => ?_, fun i b hi => ?_, fun u hu => ?_⟩
    · by_cases hj' : j < us.length
      · rw [List.getElem?_append_left hj']; exact g2 j (by simpa [g1] using (by omega : j < us.length))
      · rw [List.getElem?_append_right (by omega)]
        have := n2 (j - us.length) (by simp at hj; omega)
        rw [← this]; congr 1; omega
    · cases i with
      | zero =>
        simp at hi; subst hi
        refine ⟨h1, DRA.congr (fun m hm => ?_) g3'⟩
        simp only [Nat.zero_add, Nat.zero_mul]
        rw [List.getElem?_append_left (by omega)]
      | succ i =>
        simp at hi
        obtain ⟨q1, q2⟩ := n3 i b hi
        refine ⟨q1, DRA.congr (fun m hm => ?_) q2⟩
        simp only [Nat.zero_add, Nat.add_mul]
        rw [List.getElem?_append_right (by omega)]
        congr 1; omega
    · rw [List.mem_append] at hu
      rcases hu with hu | hu
      · obtain ⟨i, hi, rfl⟩ := List.mem_iff_getElem.1 hu
        obtain ⟨v, q1, q2, _⟩ := VRA_iff.1 g3 i _ (List.getElem?_eq_getElem (by rw [← g1]; exact hi))
        simp only [Nat.zero_add] at q1
        rw [List.getElem?_eq_getElem hi] at q1; cases q1; exact q2
      · exact n4 u hu

theorem LRA.append {F : Nat → Prop} {w : World} {sz : Nat} {α : Type} {e : α → List D} {l l2 : List α} {us vs : List Value} (hu : us.length = l.length * sz) (h : LRA F w (fun j => us[j]?) 0 sz e l) (k : LRA F w (fun j => vs[j]?) 0 sz e l2) : LRA F w (fun j => (us ++ vs)[j]?) 0 sz e (l ++ l2) := fun i a hi => by
  by_cases h' : i < l.length
  · rw [List.getElem?_append_left h'] at hi
    obtain ⟨q1, q2⟩ := h i a hi
    refine ⟨q1, DRA.congr (fun m hm => ?_) q2⟩
    have : (i + 1) * sz ≤ l.length * sz := Nat.mul_le_mul_right _ h'
    rw [Nat.add_mul] at this
    rw [List.getElem?_append_left (by omega)]
  · rw [List.getElem?_append_right (by omega)] at hi
    obtain ⟨q1, q2⟩ := k _ a hi
    refine ⟨q1, DRA.congr (fun m hm => ?_) q2⟩
    have : l.length * sz ≤ i * sz := Nat.mul_le_mul_right _ (by omega)
    rw [List.getElem?_append_right (by omega)]
    congr 1
    rw [Nat.sub_mul]; omega

theorem LRA.of_prefix {F : Nat → Prop} {w : World} {sz : Nat} {α : Type} {e : α → List D} {l : List α} {us : List Value} {g : Nat → Option Value} (hu : us.length = l.length * sz) (h : LRA F w (fun j => us[j]?) 0 sz e l) (hg : ∀ j, j < us.length → g j = us[j]?) : LRA F w g 0 sz e l := fun i a hi => by
  obtain ⟨q1, q2⟩ := h i a hi
  refine ⟨q1, DRA.congr (fun m hm => ?_) q2⟩
  have : (i + 1) * sz ≤ l.length * sz := Nat.mul_le_mul_right _ (List.getElem?_eq_some_iff.1 hi).1
  rw [Nat.add_mul] at this
  exact hg _ (by omega)

section
variable {P : Program} {w : World} {t ty e : TypeId} {td ed : TyD} (ht : TyOk P t td) (hd : td.desc = .slice e) (he : TyOk P e ed)
include ht hd he
theorem run_append_empty (v : Value) (n cap : Nat) (base : Option Addr) (hs : v = .slice none 0 0 ∨ ∃ a c, v = .slice (some a) 0 c) (hn : n ≤ cap) :
    (Builtin.append_ #[t, t] ty #[.slice base n cap, v]).run P w = .ok (.slice base n cap) w := by
  obtain ⟨i, hi, his, hib, hiz⟩ := he.inf
  have hu := ht.und
  rw [hd] at hu
  have hlen : (Builtin.lenOf v).run P w = .ok 0 w := by
    rcases hs with rfl | ⟨a, c, rfl⟩ <;> rfl
  have hfc : (Builtin.firstCells i.size 0 v).run P w = .ok #[] w := by
    rcases hs with rfl | ⟨a, c, rfl⟩
    · rfl
    · simp [Builtin.firstCells, loadCells, loadCellsFrom]
  cases base <;> simp [Builtin.append_, run_underlying hu, sizeOf, typeInfo, hi, hlen, hn, hfc, storeCells]
end

/-- What append makes of a slice that the call owns (or nil): all of its block's list. -/
theorem append_own {X : Ctx} {T : TypeId → Option TyD} (hT : TabOk X.P T) {io : Nat → Option Nat} {F : Nat → Prop} {s : St} {a : Act} {w : World} (hs : SR X io F s a w) {t ty e : TypeId} {td ed : TyD} (ht : T t = some td) (hd : td.desc = .slice e) (he : T e = some ed) {k n : Nat} (hK : k ∉ X.K) {α : Type} {en : α → List D} {z : α} {l l2 : List α} (hk : s.blk k = some (.data e ed.size en z l)) {v : Value} (hv : VR (s.keys io) F w (.own k 0 n e ed.size) v) (hn : n = l.length)
    {u : Value} (hu : SrcT F w u ed.size en l2) (hz : zeroOk ed = true) (hlen : l.length + l2.length ≤ maxLen) (hby : (l.length + l2.length) * ed.bytes ≤ 140737488355328) :
    ∃ v' w' io', (Builtin.append_ #[t, t] ty #[v, u]).run X.P w = .ok v' w' ∧ SR X io' F (s.new k (.data e ed.size en z (l ++ l2))) a w' ∧ VR ((s.new k (.data e ed.size en z (l ++ l2))).keys io') F w' (.own k 0 (l ++ l2).length e ed.size) v' := by
  obtain ⟨i, hi, his, hib, hiz⟩ := (hT _ _ he).inf
  obtain ⟨z1, z2, z3, z4⟩ := zeroOk_sound (F := F) (w := w) hz
  have hund := (hT _ _ ht).und
  rw [hd] at hund
  have hmx : maxLen = 9223372036854775807 := rfl
  have hlnn : (s.new k (.data e ed.size en z (l ++ l2))).ln k = (l ++ l2).length := ln_of withBlk_same
  have hlk : s.ln k = l.length := ln_of hk
  subst hn
  have hv0 := hv
  simp only [VR] at hv
  have stay : ∀ b, l2 = [] → io k = b → SR X (updio io k b) F (s.new k (.data e ed.size en z (l ++ l2))) a w := fun b h0 hb => by
    subst h0 hb
    have hkill := hs.kill k (io k) hK
    refine SR.setBlk hkill (by rw [sub_ln_same]; exact Nat.zero_le _) ?_ fun j c hne hj e1 e2 => ?_
    · have := hs.bl k _ hk
      simp only [BR, List.append_nil] at this ⊢
      rw [show ((s.sub k none).withBlk k (.data e ed.size en z l)).keys (updio io k (io k)) = ⟨updio io k (io k), _⟩ from rfl]
      simp only [updio_same]
      exact this
    · obtain ⟨b0, hb0⟩ := Option.ne_none_iff_exists'.1 hj
      obtain ⟨_, c1, g1, _⟩ := sub_blk hb0
      rw [updio_ne _ _ hne] at e1
      rw [updio_same] at e2
      exact hne (hs.inj j k _ (by rw [g1]; simp) (by rw [hk]; simp) e1 e2)
  have stayV : ∀ b (v : Value), l2 = [] → io k = b → VR (s.keys io) F w (.own k 0 l.length e ed.size) v → VR ((s.new k (.data e ed.size en z (l ++ l2))).keys (updio io k b)) F w (.own k 0 (l ++ l2).length e ed.size) v := fun b v h0 hb h => by
    subst h0 hb
    simp only [VR] at h ⊢
    rw [show ((s.new k (.data e ed.size en z (l ++ []))).keys (updio io k (io k))).io k = io k from updio_same _ _ _]
    simp only [List.append_nil]
    rcases h with h | ⟨b, cap, arr, h1, h2, h3, h4, h5, h6, h7⟩
    · exact .inl h
    · refine .inr ⟨b, cap, arr, h1, h2, h3, h4, h5, h6, ?_⟩
      have := hlnn
      simp only [List.append_nil] at this
      show _ ≤ (s.new k _).ln k
      rw [this]; omega
  have fresh : ∀ (vals news : List Value) (cap : Nat), vals.length = l.length * ed.size → LRA F w (fun j => vals[j]?) 0 ed.size en l → news.length = l2.length * ed.size → LRA F w (fun j => news[j]?) 0 ed.size en l2 → (l ++ l2).length ≤ cap → cap ≤ maxLen →
      SR X (updio io k (some w.heap.size)) F (s.new k (.data e ed.size en z (l ++ l2))) a (w.drew.alloc (.cells (vals.toArray ++ news.toArray ++ Builtin.zeroCells ed.zero.cells (cap - (l ++ l2).length)) e)) ∧ VR ((s.new k (.data e ed.size en z (l ++ l2))).keys (updio io k (some w.heap.size))) F (w.drew.alloc (.cells (vals.toArray ++ news.toArray ++ Builtin.zeroCells ed.zero.cells (cap - (l ++ l2).length)) e)) (.own k 0 (l ++ l2).length e ed.size) (.slice (some ⟨w.heap.size, 0, none⟩) (l ++ l2).length cap) := fun vals news cap h1 h2 h3 h4 h5 h6 => by
    have hap := LRA.append h1 h2 h4
    have hap2 : LRA F w (fun j => (vals.toArray ++ news.toArray ++ Builtin.zeroCells ed.zero.cells (cap - (l ++ l2).length))[j]?) 0 ed.size en (l ++ l2) := LRA.of_prefix (us := vals ++ news) (by simp [h1, h3, Nat.add_mul]) hap fun j hj => by
      rw [Array.getElem?_append_left (by simpa using hj)]
      simp
    refine ⟨(hs.drew).newBlk k hK e _ (.data e ed.size en z (l ++ l2)) (.inl ⟨_, _, _, _, _, rfl, LRA.mono (w := w) (w' := w.drew) (fun _ h => h) (fun _ _ => rfl) hap2⟩), ?_⟩
    simp only [VR]
    refine .inr ⟨w.heap.size, cap, _, updio_same _ _ _, by simp, h5, by omega, heap_alloc_new w.drew _, ?_, ?_⟩
    · simp [size_zeroCells, h1, h3, z1]
      rw [← Nat.add_mul, ← Nat.add_mul]; congr 1; simp at h5; omega
    · show _ ≤ (s.new k _).ln k
      rw [hlnn]; simp
  rcases hv with ⟨hio, rfl, hl0, _⟩ | ⟨b, cap, arr, hio, rfl, hcap, hcm, hh, hsz, hln⟩
  · have hl0 : l = [] := List.eq_nil_of_length_eq_zero hl0
    subst hl0
    rcases hu with ⟨⟨p, rfl⟩, rfl⟩ | ⟨c, off, cc, arr, ty', fz, rfl, hh, hr⟩
    · exact ⟨.slice none 0 0, w, updio io k none, run_append_empty (hT _ _ ht) hd (hT _ _ he) _ 0 0 none (by cases p; exact .inl rfl; exact .inr ⟨_, _, rfl⟩) (Nat.le_refl _), stay none rfl hio, stayV none _ rfl hio hv0⟩
    · by_cases hm : l2.length = 0
      · have hm0 : l2 = [] := List.eq_nil_of_length_eq_zero hm
        subst hm0
        exact ⟨.slice none 0 0, w, updio io k none, run_append_empty (hT _ _ ht) hd (hT _ _ he) _ 0 0 none (.inr ⟨_, _, rfl⟩) (Nat.le_refl _), stay none rfl hio, stayV none _ rfl hio hv0⟩
      · obtain ⟨news, n1, n2, n3, n4⟩ := lra_vals l2 off hr
        have hrun := run_append_nil (P := X.P) w t ty e i ed.zero hund hi hiz ⟨c, off, none⟩ l2.length cc news (by rw [his]; exact n1) (fun j x hj => by
          rw [add_plain]
          have hj' : j < news.length := (List.getElem?_eq_some_iff.1 hj).1
          simp [World.cell?, hh, n2 j hj', hj]) (by omega) (by simp at hlen; omega) (by rw [hib]; simp at hby; omega)
        have hge := grownCap_ge w l2.length 0 e
        obtain ⟨f1, f2⟩ := fresh [] news (grownCap w l2.length 0 e) (by simp) (fun i a hi => by simp at hi) n1 n3 (by simp; omega) (grownCap_le_maxLen w l2.length 0 e (by simp at hlen; omega))
        refine ⟨_, _, updio io k (some w.heap.size), hrun, ?_, ?_⟩
        · simpa using f1
        · simpa using f2
  · have hbr := hs.bl k _ hk
    simp only [BR] at hbr
    rcases hbr with ⟨h, _⟩ | ⟨b', arr', h1, hF, hA, hh', hr⟩
    · rw [hio] at h; cases h
    · rw [hio] at h1; cases h1
      rw [hh] at hh'; cases hh'
      by_cases hm0 : l2 = [] 
      · subst hm0
        refine ⟨_, w, updio io k (some b), run_append_empty (hT _ _ ht) hd (hT _ _ he) u l.length cap _ ?_ hcap, stay _ rfl hio, stayV _ _ rfl hio hv0⟩
        rcases hu with ⟨⟨p, rfl⟩, _⟩ | ⟨c, off, cc, arr, ty', fz, rfl, _, _⟩
        · cases p
          · exact .inl rfl
          · exact .inr ⟨_, _, rfl⟩
        · exact .inr ⟨_, _, rfl⟩
      · have hl2 : l2.length ≠ 0 := fun h => hm0 (List.eq_nil_of_length_eq_zero h)
        rcases hu with ⟨_, h⟩ | ⟨c, off, cc, arr2, ty', fz, rfl, hh2, hr2⟩
        · exact absurd h hm0
        obtain ⟨news, n1, n2, n3, n4⟩ := lra_vals l2 off hr2
        obtain ⟨vals, v1, v2, v3, v4⟩ := lra_vals l 0 hr
        have hva : ∀ j, j < vals.length → arr[j]? = vals[j]? := fun j hj => by have := v2 j hj; simpa using this
        have hcell : ∀ (j : Nat) x, news[j]? = some x → w.cell? ((⟨c, off, none⟩ : Addr).add j) = some x := fun j x hj => by
          rw [add_plain]
          have hj' : j < news.length := (List.getElem?_eq_some_iff.1 hj).1
          simp [World.cell?, hh2, n2 j hj', hj]
        have hle : vals.length ≤ arr.size := by
          rw [v1, hsz]; exact Nat.mul_le_mul_right _ (by omega)
        have hpre : arr.toList.take (l.length * ed.size) = vals := by
          apply List.ext_getElem?
          intro j
          rw [List.getElem?_take]
          split
          · rename_i hj
            have := hva j (by omega)
            simpa using this
          · rename_i hj
            rw [List.getElem?_eq_none (by omega)]
        by_cases hroom : l.length + l2.length ≤ cap
        · have hfit : l.length * i.size + news.length ≤ arr.size := by
            rw [his, n1, hsz, ← Nat.add_mul]; exact Nat.mul_le_mul_right _ (by omega)
          have hrun := run_append_room (P := X.P) w t ty e i hund hi b l.length cap arr (by simpa using hh) ⟨c, off, none⟩ l2.length cc news (by rw [his]; exact n1) hcell n4 hroom hfit
          rw [his] at hrun hfit
          have hsz' : (arr.toList.take (l.length * ed.size) ++ news ++ arr.toList.drop (l.length * ed.size + news.length)).toArray.size = arr.size := by simp; omega
          have hlra : LRA F w (fun j => (arr.toList.take (l.length * ed.size) ++ news ++ arr.toList.drop (l.length * ed.size + news.length)).toArray[j]?) 0 ed.size en (l ++ l2) := by
            rw [hpre]
            refine LRA.of_prefix (us := vals ++ news) (by simp [v1, n1, Nat.add_mul]) (LRA.append v1 v3 n3) fun j hj => ?_
            rw [List.getElem?_toArray, List.getElem?_append_left hj]
          have hw := hs.write (by rw [hk]; simp) hio hF hA hh hsz' (nb := .data e ed.size en z (l ++ l2)) (by rw [hlk]; simp [Blk.ln]) (.inl ⟨_, _, _, _, _, rfl, hlra⟩)
          have hself := setRow_heap w b arr (arr.toList.take (l.length * ed.size) ++ news ++ arr.toList.drop (l.length * ed.size + news.length)).toArray e _ hh
          have e0 : (⟨b, 0 * ed.size, none⟩ : Addr) = ⟨b, 0, none⟩ := by simp
          rw [e0]
          refine ⟨_, _, updio io k (some b), hrun, ?_, ?_⟩
          · have hkill := hw.kill k (some b) hK
            have heq : (s.withBlk k (.data e ed.size en z (l ++ l2))).sub k none = s.sub k none := by
              unfold St.sub St.withBlk
              congr 1
              funext j
              cases hb : Nat.beq j k <;> simp [hb]
            rw [heq] at hkill
            refine SR.setBlk hkill (by rw [sub_ln_same]; exact Nat.zero_le _) ?_ fun j c hne hj e1 e2 => ?_
            · have hb2 := hw.bl k _ withBlk_same
              simp only [BR] at hb2 ⊢
              rw [show (((s.sub k none).withBlk k (.data e ed.size en z (l ++ l2))).keys (updio io k (some b))).io k = some b from updio_same _ _ _]
              rcases hb2 with ⟨h, _⟩ | h
              · rw [show ((s.withBlk k (.data e ed.size en z (l ++ l2))).keys io).io k = io k from rfl, show io k = some b from hio] at h; cases h
              · obtain ⟨b2, x2, g1, g⟩ := h
                rw [show ((s.withBlk k (.data e ed.size en z (l ++ l2))).keys io).io k = io k from rfl, show io k = some b from hio] at g1; cases g1
                exact .inr ⟨b, x2, rfl, g⟩
            · rw [updio_same] at e2; cases e2
              obtain ⟨b0, hb0⟩ := Option.ne_none_iff_exists'.1 hj
              obtain ⟨_, c1, g1, _⟩ := sub_blk hb0
              rw [updio_ne _ _ hne] at e1
              exact hne (hs.inj j k _ (by rw [g1]; simp) (by rw [hk]; simp) e1 hio)
          · simp only [VR]
            refine .inr ⟨b, cap, _, updio_same _ _ _, by simp, by simpa using hroom, hcm, hself, by rw [hsz', hsz], ?_⟩
            show _ ≤ (s.new k _).ln k
            rw [hlnn]; simp
        · have holds : ∀ (j : Nat) x, vals[j]? = some x → w.cell? ((⟨b, 0 * ed.size, none⟩ : Addr).add j) = some x := fun j x hj => by
            rw [add_plain]
            have hj' : j < vals.length := (List.getElem?_eq_some_iff.1 hj).1
            simp [World.cell?, hh, hva j hj', hj]
          have hrun := run_append_grow (P := X.P) w t ty e i ed.zero hund hi hiz ⟨b, 0 * ed.size, none⟩ l.length cap vals (by rw [his]; exact v1) holds ⟨c, off, none⟩ l2.length cc news (by rw [his]; exact n1) hcell (by omega) (by omega) (growslice_fits (by omega) (by rw [hib]; exact hby))
          have hge := grownCap_ge w (l.length + l2.length) cap e
          obtain ⟨f1, f2⟩ := fresh vals news (grownCap w (l.length + l2.length) cap e) v1 v3 n1 n3 (by simp; omega) (grownCap_le_maxLen w (l.length + l2.length) cap e (by omega))
          refine ⟨_, _, updio io k (some w.heap.size), hrun, ?_, ?_⟩
          · simpa using f1
          · simpa using f2
end Go.Vw
