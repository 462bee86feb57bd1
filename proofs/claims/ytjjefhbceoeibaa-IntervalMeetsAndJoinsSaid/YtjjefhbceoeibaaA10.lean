/-
  Contracts of functions of the program, and the layer that they are walked with: VX VY N18. Conditions: as each says.
-/
import Derived.WalkKit
import Derived.ProofKit
import Derived.OpenShut
import Derived.Deep.DeepHandedRow
import Derived.Lib.LaidTab
import Derived.Test.YtjjefhbceoeibaaA09
/-
  From a contract on values of plain types to what a law's row asks of a call. Conditions: closed facts of the program's types.
-/
set_option linter.unusedSimpArgs false
set_option linter.unusedVariables false
namespace Go.Vw
open Go.ChangeShapes Go.WideShapes Go.ChangeAt Go.RowKit

/-- What a contract of data gives at the statement's arguments. -/
theorem post_below {H : Type} {enc : TypeId × Value → H} {P : Program} {f : Func} {s : ChangeSpec} {apart fresh handsOn again : Bool} {W W' : World} {args : Array Value} {v : Value} {ds gs : List (DataW H)} {before pa pv : List MemPlace}
    (hW : DataW.Whole enc P f.params.toList s.vars apart W args.toList ds gs before)
    (hres : ∀ (b : Nat) (sp : Nat → Bool) (hd : Bool), DataW.TrodAll enc P W' b sp hd f.resultTypes.toList (v.resultList f.resultTypes.size) (s.fn H (ds ++ gs)).results [])
    (hargs : ∀ sp : Nat → Bool, (∀ p ∈ before, sp p.block = true) → DataW.TrodAll enc P W' 0 sp true f.params.toList args.toList (s.fn H (ds ++ gs)).args pa)
    (hvars : ∀ sp : Nat → Bool, (∀ p ∈ before, sp p.block = true) → DataW.TrodVars enc P W' sp s.vars (s.fn H (ds ++ gs)).vars pv)
    (hps : before = pa ++ pv) (hb : Below W.heap.size W W')
    (hok : ∀ (j : Nat) (t : TypeId) (r : Value), f.resultTypes[j]? = some t → (v.resultList f.resultTypes.size)[j]? = some r → Value.okWide P W' .any 0 t r) :
    s.post enc P f apart fresh handsOn again W args v W' := by
  have hlt := hW.lt
  have hin : ∀ p ∈ before, (fun b => decide (b < W.heap.size)) p.block = true := fun p hp => decide_eq_true (hlt p hp)
  obtain ⟨_, _, _, _, _, hz, hn⟩ := id hW
  refine ⟨ds, gs, before, [], pa, pv, hW, hres _ _ _, hargs _ hin, hvars _ hin, hb.frame _, fun _ => ⟨hok, _, _, ([] ++ pa) ++ pv, ⟨[] ++ pa, pv, trodAll_append (hargs _ fun _ _ => rfl) (hres _ _ _), hvars _ fun _ _ => rfl, rfl, fun b off hp => ?_, fun ha => ?_⟩, fun p hp _ => ?_⟩⟩
  · have hp' : MemPlace.cell b off ∈ before := by rw [hps]; simpa using hp
    rw [hb.frozen (hlt _ hp')]
    exact hz b off hp'
  · have := hn ha
    rw [hps] at this
    simpa using this
  · rw [hps]; simpa using hp

theorem trodAll_stays {H : Type} {enc : TypeId × Value → H} {P : Program} {W W' : World} {sp' : Nat → Bool} (hl : laidOutB P = true) : ∀ {ts : List TypeId} {vs : List Value} {ds : List (DataW H)} {ps : List MemPlace}, (ts.all fun t => P.readableRec t && decide (t < P.types.size)) = true → DataW.TrodAll enc P W 0 (fun _ => true) true ts vs ds ps → (∀ p ∈ ps, W.sameAt W' p) → (∀ p ∈ ps, sp' p.block = true) → DataW.TrodAll enc P W' 0 sp' true ts vs ds ps
  | [], [], [], _, _, h, _, _ => h
  | [], _ :: _, _, _, _, h, _, _ => absurd h id
  | [], [], _ :: _, _, _, h, _, _ => absurd h id
  | _ :: _, [], _, _, _, h, _, _ => absurd h id
  | _ :: _, _ :: _, [], _, _, h, _, _ => absurd h id
  | t :: ts, v :: vs, d :: ds, _, ht, ⟨p, q, h1, h2, e⟩, hsame, hs => by
    subst e
    simp only [List.all_cons, Bool.and_eq_true, decide_eq_true_eq] at ht
    exact ⟨p, q, WideElems.Trod_stays hl ht.1.1 ht.1.2 h1 (fun x hx => hsame x (by simp [hx])) (fun x hx => hs x (by simp [hx])), trodAll_stays hl ht.2 h2 (fun x hx => hsame x (by simp [hx])) (fun x hx => hs x (by simp [hx])), rfl⟩

/-- **A law without variables of its own.** -/
theorem law_contract {P : Program} {f : FuncId} {fn : Func} {s : ChangeSpec} {rt : TypeId} (tys : Tys) (hl : laidOutB P = true) (hok : tys.oks P fn.params.toList = true) (hp : (fn.params.toList.all fun t => P.readableRec t && decide (t < P.types.size)) = true) (hv : s.vars = []) (hr : fn.resultTypes = #[rt]) (hrt : P.underlying rt = some .bool) (hc : ∀ x : tys.Val, tys.wf x → Ret P f (tys.tops x) (· = .bool true))
    (H : Type) (enc : TypeId × Value → H) (hs : ∀ ds : List (DataW H), ds.length = fn.params.toList.length → (s.fn H ds).results = [.lit (.bool true)] ∧ (s.fn H ds).args = ds ∧ (s.fn H ds).vars = [])
    (W : World) (base : Nat) (args : Array Value) (ds gs : List (DataW H)) (before : List MemPlace)
    (hval : ∀ (j : Nat) t v, fn.params[j]? = some t → args[j]? = some v → Value.okWide P W .any base t v)
    (hW : DataW.Whole enc P fn.params.toList s.vars false W args.toList ds gs before) :
    Calls P f args W fun e W' => ∃ v, e = .returned v ∧ s.post enc P fn false true false false W args v W' := by
  have hW' := hW
  have hlt := hW.lt
  obtain ⟨p, q, hA, hV, rfl, hfz, hnd⟩ := hW
  rw [hv] at hV
  obtain ⟨rfl, rfl⟩ := trodVars_none hV
  obtain ⟨x, hx, hlen, hd⟩ := Tys.topsRead tys fn.params.toList args.toList ds p hok (fun j t v h1 h2 => hval j t v (by simpa using h1) (by simpa using h2)) hA
  have hdl : ds.length = fn.params.toList.length := by
    have aux : ∀ (ts : List TypeId) (vs : List Value) (ds : List (DataW H)) (ps : List MemPlace), DataW.TrodAll enc P W 0 (fun _ => true) true ts vs ds ps → ds.length = ts.length := by
      intro ts
      induction ts with
      | nil => intro vs ds ps h; cases vs <;> cases ds <;> first | (exact absurd h id) | rfl
      | cons t ts ih =>
        intro vs ds ps h
        cases vs with
        | nil => cases ds <;> exact absurd h id
        | cons v vs => cases ds with
          | nil => exact absurd h id
          | cons d ds => obtain ⟨_, q, _, h2, _⟩ := h; simp [ih _ _ _ h2]
    exact aux _ _ _ _ hA
  obtain ⟨s1, s2, s3⟩ := hs ds hdl
  have ht := Tys.tops_len tys fn.params.toList x hok
  refine ((hc x hx).run (allF W) W args (fun b h => h) (by rw [ht, ← hlen]; simp) (hd _ 0 (fun i => by simp))).mono fun e W' ⟨v, r, F', he, hr', hb, _, _, hv'⟩ => ?_
  subst he hr'
  simp only [Vw.DR] at hv'
  subst hv'
  refine ⟨_, rfl, post_below (pa := p) (pv := []) hW' ?_ ?_ ?_ rfl hb ?_⟩
  · intro b sp hd'
    simp only [List.append_nil, s1, hr]
    exact trodAll_cons_mk (shut_bool hrt _) trodAll_mk0
  · intro sp hsp
    simp only [List.append_nil, s2]
    exact trodAll_stays hl hp hA (fun y hy => hb.same (hlt y (by simp [hy]))) (fun y hy => hsp y (by simp [hy]))
  · intro sp hsp
    simp only [List.append_nil, s3, hv]
    rfl
  · exact ok_one hr rfl (okWide_bool_mk hrt _)
end Go.Vw

/-
  A law's rational numbers and intervals as they come in. Conditions: as each says.
-/
set_option linter.unusedVariables false
set_option linter.unusedSimpArgs false
namespace Go.Vw
abbrev tU : Ty := .slice (.int .u32)
abbrev tInt : Ty := .struct (.cons .bool (.cons tU .nil))
abbrev tRat : Ty := .struct (.cons tInt (.cons tU .nil))
abbrev tItv : Ty := .struct (.cons tRat (.cons tRat .nil))
def toN (l : List Int) : List Nat := l.map Int.toNat
theorem toN_len (l : List Int) : (toN l).length = l.length := List.length_map ..
theorem u32_wf {z : Int} (h : (Lit.int .u32 z).wf = true) : 0 ≤ z ∧ z < 4294967296 := by
  simp [Lit.wf, IntKind.min, IntKind.max, IntKind.signed, IntKind.bits] at h
  omega
theorem leU {l : List Int} (h : ∀ z ∈ l, (Lit.int .u32 z).wf = true) : LeD (.sl 1 (Ty.int .u32).cells (0 : Int) l) (u32s (toN l)) := by
  refine LeD.sl (toN_len l).symm fun i (a : Int) b (ha : (l[i]? : Option Int) = some a) hb => ⟨rfl, ?_⟩
  have hm : a ∈ l := List.mem_of_getElem? ha
  have hw := u32_wf (h a hm)
  unfold toN at hb
  rw [List.getElem?_map, ha] at hb
  simp only [Option.map_some, Option.some.injEq] at hb
  subst hb
  exact leN hw.1
theorem wf_toN {l : List Int} (h : ∀ z ∈ l, (Lit.int .u32 z).wf = true) : WF (toN l) := by
  intro x hx
  unfold toN at hx
  obtain ⟨z, hz, rfl⟩ := List.mem_map.1 hx
  have := u32_wf (h z hz)
  show z.toNat < 4294967296
  omega
abbrev vRat : Type := (Bool × List Int × Unit) × List Int × Unit
abbrev vItv : Type := vRat × vRat × Unit
def toR (x : vRat) : R3 := (x.1.1, toN x.1.2.1, toN x.2.1)
def wfRat (x : vRat) : Prop := (x.1.2.1.length ≤ maxLen ∧ ∀ z ∈ x.1.2.1, (Lit.int .u32 z).wf = true) ∧ (x.2.1.length ≤ maxLen ∧ ∀ z ∈ x.2.1, (Lit.int .u32 z).wf = true)
def wfItv (x : vItv) : Prop := wfRat x.1 ∧ wfRat x.2.1
theorem wfRat_of {x : vRat} (h : Ty.wf tRat x) : wfRat x := ⟨h.1.2.1, h.2.1⟩
theorem wfItv_of {x : vItv} (h : Ty.wf tItv x) : wfItv x := ⟨wfRat_of h.1, wfRat_of h.2.1⟩
theorem leRat {x : vRat} (h : wfRat x) : LeL (Ty.cells tRat x) (rC (toR x)) :=
  LeL.cons (LeD.refl _) (LeL.cons (leU h.1.2) (LeL.cons (leU h.2.2) LeL.nil))
theorem leRatD {x : vRat} (h : wfRat x) : LeD (Ty.top tRat x) (rD (toR x)) := LeD.agg (leRat h)
theorem leItvD {x : vItv} (h : wfItv x) : LeD (Ty.top tItv x) (iD (toR x.1) (toR x.2.1)) :=
  LeD.agg (LeL.cons (LeD.refl _) (LeL.cons (leU h.1.1.2) (LeL.cons (leU h.1.2.2) (LeL.cons (LeD.refl _) (LeL.cons (leU h.2.1.2) (LeL.cons (leU h.2.2.2) LeL.nil))))))
/-- A number as it comes in: any limbs, of any length. -/
structure RawR (r : R3) : Prop where
  wm : WF r.2.1
  wd : WF r.2.2
  lm : r.2.1.length ≤ 9223372036854775807
  ld : r.2.2.length ≤ 9223372036854775807
def lightR (r : R3) : Bool := decide (r.2.1.length ≤ 8) && decide (r.2.2.length ≤ 8)
theorem RawR.light {r : R3} (h : RawR r) (hl : lightR r = true) : RatOk r 9 := by
  unfold lightR at hl
  rw [Bool.and_eq_true, decide_eq_true_eq, decide_eq_true_eq] at hl
  exact ⟨h.wm, h.wd, Nat.lt_succ_of_le hl.1, Nat.lt_succ_of_le hl.2⟩
theorem rawR {x : vRat} (h : wfRat x) : RawR (toR x) :=
  ⟨wf_toN h.1.2, wf_toN h.2.2, by show (toN _).length ≤ _; rw [toN_len]; exact h.1.1, by show (toN _).length ≤ _; rw [toN_len]; exact h.2.1⟩
def loR (x : vItv) : R3 := toR x.1
def hiR (x : vItv) : R3 := toR x.2.1
theorem rawLo {x : vItv} (h : wfItv x) : RawR (loR x) := rawR h.1
theorem rawHi {x : vItv} (h : wfItv x) : RawR (hiR x) := rawR h.2
theorem leItv {x : vItv} (h : wfItv x) : LeD (Ty.top tItv x) (iD (loR x) (hiR x)) := leItvD h
theorem i64_wf {z : Int} (h : (Lit.int .i64 z).wf = true) : -9223372036854775808 ≤ z ∧ z < 9223372036854775808 := by
  simp [Lit.wf, IntKind.min, IntKind.max, IntKind.signed, IntKind.bits] at h
  omega
end Go.Vw

set_option linter.unusedVariables false
set_option linter.unusedSimpArgs false
set_option maxHeartbeats 4000000
namespace Go.Proofs.Ytjjefhbceoeibaa
open Go.Vw
attribute [local irreducible] awp awpL awpR

theorem made_Light (r : R3) (h : RawR r) : Ret Try.prog 5 [rD r] (· = .bool (lightR r)) := by
  obtain ⟨h1, h2, h3, h4⟩ := h
  unfold lightR
  obtain ⟨x, m, d⟩ := r
  simp only at h3 h4 ⊢
  rw [show decide (m.length ≤ 8) = decide ((m.length : Int) ≤ 8) from decide_eq_decide.2 (by omega), show decide (d.length ≤ 8) = decide ((d.length : Int) ≤ 8) from decide_eq_decide.2 (by omega)]
  refine ret_of_awp tab Try.func5 rfl rfl (Nat.le_of_ble_eq_true rfl) (fun w0 F0 => ?_)
  repeat' (first
    | (show awpL _ _ _ _ _; first | refine goL ?_ | (refine gdLD rfl rfl (fun _ => ?_) (fun _ => ?_) <;> try (exfalso; omega)) | (refine gdLN rfl rfl (fun _ => ?_) (fun _ => ?_) <;> try (exfalso; omega)) | refine gdL rfl rfl (fun _ => ?_) (fun _ => ?_))
    | (show awp _ _ _ _; first | refine goA ?_ | (refine awp_condD rfl (fun _ => ?_) (fun _ => ?_) <;> try (exfalso; omega)) | (refine awp_condN rfl (fun _ => ?_) (fun _ => ?_) <;> try (exfalso; omega)) | refine awp_cond rfl (fun _ => ?_) (fun _ => ?_))
    | (show andThen _ _ _ _; first | refine goN ?_)
    | (show inBlock _ _ _ _; first | refine goB ?_)
    | (show awpR _ _ _ _ _ _; first | refine goR ?_ | (refine gdRD rfl rfl (fun _ => ?_) (fun _ => ?_) <;> try (exfalso; omega)) | (refine gdRN rfl rfl (fun _ => ?_) (fun _ => ?_) <;> try (exfalso; omega)) | refine gdR rfl rfl (fun _ => ?_) (fun _ => ?_))
    | (show retPost _ _ _ _ _; first | refine finF true rfl rfl sc ?_ | refine finF false rfl rfl sc ?_ | refine finC false rfl rfl sc sc ?_ | refine finN rfl rfl sc ?_ | refine finL true rfl rfl sc rfl (LeR.cons rfl leL LeR.nil) ?_ | refine finE true rfl rfl sc ?_ | refine finE false rfl rfl sc ?_))
  all_goals first | rfl | (rename_i hc; simp [hc])
theorem made_LightInterval (a b : R3) (ha : RawR a) (hb : RawR b) : Ret Try.prog 11 [iD a b] (· = .bool (lightR a && lightR b)) := by
  have h1 := made_Light a ha
  have h2 := made_Light b hb
  generalize lightR a = x at *
  generalize lightR b = y at *
  cases x <;> cases y
  all_goals
    refine ret_of_awp tab Try.func11 rfl rfl (Nat.le_of_ble_eq_true rfl) (fun w0 F0 => ?_)
    repeat' (first
      | (show awpL _ _ _ _ _; first | refine goL ?_ | refine cl 5 tt rfl rfl rfl (hr := h1) (k := ?_) | refine cl 5 tt rfl rfl rfl (hr := h2) (k := ?_) | (refine gdLD rfl rfl (fun _ => ?_) (fun _ => ?_) <;> try (exfalso; omega)) | (refine gdLN rfl rfl (fun _ => ?_) (fun _ => ?_) <;> try (exfalso; omega)) | refine gdL rfl rfl (fun _ => ?_) (fun _ => ?_))
      | (show awp _ _ _ _; first | refine goA ?_ | (refine awp_condD rfl (fun _ => ?_) (fun _ => ?_) <;> try (exfalso; omega)) | (refine awp_condN rfl (fun _ => ?_) (fun _ => ?_) <;> try (exfalso; omega)) | refine awp_cond rfl (fun _ => ?_) (fun _ => ?_))
      | (show andThen _ _ _ _; first | refine goN ?_)
      | (show inBlock _ _ _ _; first | refine goB ?_)
      | (show awpR _ _ _ _ _ _; first | refine goR ?_ | refine clR 5 tt rfl rfl rfl (hr := h1) (k := ?_) | refine clR 5 tt rfl rfl rfl (hr := h2) (k := ?_) | (refine gdRD rfl rfl (fun _ => ?_) (fun _ => ?_) <;> try (exfalso; omega)) | (refine gdRN rfl rfl (fun _ => ?_) (fun _ => ?_) <;> try (exfalso; omega)) | refine gdR rfl rfl (fun _ => ?_) (fun _ => ?_))
      | (show retPost _ _ _ _ _; first | refine finF true rfl rfl sc ?_ | refine finF false rfl rfl sc ?_ | refine finC false rfl rfl sc sc ?_ | refine finN rfl rfl sc ?_ | refine finL true rfl rfl sc rfl (LeR.cons rfl leL LeR.nil) ?_ | refine finE true rfl rfl sc ?_ | refine finE false rfl rfl sc ?_))
    rfl
theorem law04_light (a b : R3) (ha : RawR a) (hb : RawR b) : Ret Try.prog 4 [iD a b] (· = .bool (lightR a && lightR b)) := by
  have h1 := made_LightInterval a b ha hb
  refine ret_of_awp tab Try.func4 rfl rfl (Nat.le_of_ble_eq_true rfl) (fun w0 F0 => ?_)
  repeat' (first
    | (show awpL _ _ _ _ _; first | refine goL ?_ | refine cl 11 tt rfl rfl rfl (hr := h1) (k := ?_) | (refine gdLD rfl rfl (fun _ => ?_) (fun _ => ?_) <;> try (exfalso; omega)) | (refine gdLN rfl rfl (fun _ => ?_) (fun _ => ?_) <;> try (exfalso; omega)) | refine gdL rfl rfl (fun _ => ?_) (fun _ => ?_))
    | (show awp _ _ _ _; first | refine goA ?_ | (refine awp_condD rfl (fun _ => ?_) (fun _ => ?_) <;> try (exfalso; omega)) | (refine awp_condN rfl (fun _ => ?_) (fun _ => ?_) <;> try (exfalso; omega)) | refine awp_cond rfl (fun _ => ?_) (fun _ => ?_))
    | (show andThen _ _ _ _; first | refine goN ?_)
    | (show inBlock _ _ _ _; first | refine goB ?_)
    | (show awpR _ _ _ _ _ _; first | refine goR ?_ | refine clR 11 tt rfl rfl rfl (hr := h1) (k := ?_) | (refine gdRD rfl rfl (fun _ => ?_) (fun _ => ?_) <;> try (exfalso; omega)) | (refine gdRN rfl rfl (fun _ => ?_) (fun _ => ?_) <;> try (exfalso; omega)) | refine gdR rfl rfl (fun _ => ?_) (fun _ => ?_))
    | (show retPost _ _ _ _ _; first | refine finF true rfl rfl sc ?_ | refine finF false rfl rfl sc ?_ | refine finC false rfl rfl sc sc ?_ | refine finN rfl rfl sc ?_ | refine finL true rfl rfl sc rfl (LeR.cons rfl leL LeR.nil) ?_ | refine finE true rfl rfl sc ?_ | refine finE false rfl rfl sc ?_))
  rfl
theorem ok_frac {a b : Int} (hb : b ≠ 0) (ha : a.natAbs < 18446744073709551616) (hb2 : b.natAbs < 18446744073709551616) : okQ 10 (Rat.divInt a b) :=
  okQ_divInt hb (Nat.lt_of_le_of_lt (u64_len ha) (by decide)) (Nat.lt_of_le_of_lt (u64_len hb2) (by decide))
theorem law04_of (a b c d : Int) (ha : -9223372036854775808 ≤ a) (ha2 : a < 9223372036854775808) (hb : -9223372036854775808 ≤ b) (hb2 : b < 9223372036854775808) (h0 : b ≠ 0) (hc : -9223372036854775808 ≤ c) (hc2 : c < 9223372036854775808) (hd : -9223372036854775808 ≤ d) (hd2 : d < 9223372036854775808) (h1 : d ≠ 0) : Ret Try.prog 15 [.int .i64 a, .int .i64 b, .int .i64 c, .int .i64 d] (· = iQ (Rat.divInt a b, Rat.divInt c d)) := by
  have f1 := ref03_Fraction a b ha ha2 hb hb2 h0
  have f2 := ref03_Fraction c d hc hc2 hd hd2 h1
  refine ret_of_awp tab Try.func15 rfl rfl (Nat.le_of_ble_eq_true rfl) (fun w0 F0 => ?_)
  repeat' (first
    | (show awpL _ _ _ _ _; first | refine goL ?_ | refine cl 33 tt rfl rfl rfl (hr := f1) (k := ?_) | refine cl 33 tt rfl rfl rfl (hr := f2) (k := ?_) | (refine gdLD rfl rfl (fun _ => ?_) (fun _ => ?_) <;> try (exfalso; omega)) | (refine gdLN rfl rfl (fun _ => ?_) (fun _ => ?_) <;> try (exfalso; omega)) | refine gdL rfl rfl (fun _ => ?_) (fun _ => ?_))
    | (show awp _ _ _ _; first | refine goA ?_ | (refine awp_condD rfl (fun _ => ?_) (fun _ => ?_) <;> try (exfalso; omega)) | (refine awp_condN rfl (fun _ => ?_) (fun _ => ?_) <;> try (exfalso; omega)) | refine awp_cond rfl (fun _ => ?_) (fun _ => ?_))
    | (show andThen _ _ _ _; first | refine goN ?_)
    | (show inBlock _ _ _ _; first | refine goB ?_)
    | (show awpR _ _ _ _ _ _; first | refine goR ?_ | refine clR 33 tt rfl rfl rfl (hr := f1) (k := ?_) | refine clR 33 tt rfl rfl rfl (hr := f2) (k := ?_) | (refine gdRD rfl rfl (fun _ => ?_) (fun _ => ?_) <;> try (exfalso; omega)) | (refine gdRN rfl rfl (fun _ => ?_) (fun _ => ?_) <;> try (exfalso; omega)) | refine gdR rfl rfl (fun _ => ?_) (fun _ => ?_))
    | (show retPost _ _ _ _ _; first | refine finF true rfl rfl sc ?_ | refine finF false rfl rfl sc ?_ | refine finC false rfl rfl sc sc ?_ | refine finN rfl rfl sc ?_ | refine finL true rfl rfl sc rfl (LeR.cons rfl leL LeR.nil) ?_ | refine finE true rfl rfl sc ?_ | refine finE false rfl rfl sc ?_))
  rfl
theorem law04_awake : Ret Try.prog 6 [] (· = .bool true) := by
  have f2 := ref03_FromIntQ 2 (by decide) (by decide)
  have k2 : okQ 10 ((2 : Int) : Rat) := ok_frac (a := 2) (b := 1) (by decide) (by decide) (by decide)
  have r1 := interval_RootN (rq ((2 : Int) : Rat)) 2 (by decide) (ok_rq (k2.mono (by decide))) (by rw [rv_rq]; decide)
  rw [rv_rq, show rootI ((2 : Int) : Rat) 2 = (Rat.divInt 5 4, Rat.divInt 3 2) by decide +kernel] at r1
  have o1 := law04_of 5 4 3 2 (by decide) (by decide) (by decide) (by decide) (by decide) (by decide) (by decide) (by decide) (by decide) (by decide)
  have k54 : okQ 10 (Rat.divInt 5 4) := ok_frac (by decide) (by decide) (by decide)
  have k32 : okQ 10 (Rat.divInt 3 2) := ok_frac (by decide) (by decide) (by decide)
  have s1 := ref04_SameI (Rat.divInt 5 4, Rat.divInt 3 2) (Rat.divInt 5 4, Rat.divInt 3 2) ⟨k54.mono (by decide), k32.mono (by decide)⟩ ⟨k54.mono (by decide), k32.mono (by decide)⟩
  rw [decide_eq_true rfl] at s1
  have kn1 : okQ 10 (Rat.divInt (-1) 1) := ok_frac (by decide) (by decide) (by decide)
  have k21 : okQ 10 (Rat.divInt 2 1) := ok_frac (by decide) (by decide) (by decide)
  have k31 : okQ 10 (Rat.divInt 3 1) := ok_frac (by decide) (by decide) (by decide)
  have k41 : okQ 10 (Rat.divInt 4 1) := ok_frac (by decide) (by decide) (by decide)
  have kn4 : okQ 10 (Rat.divInt (-4) 1) := ok_frac (by decide) (by decide) (by decide)
  have k81 : okQ 10 (Rat.divInt 8 1) := ok_frac (by decide) (by decide) (by decide)
  have k01 : okQ 10 (Rat.divInt 0 1) := ok_frac (by decide) (by decide) (by decide)
  have o2 := law04_of (-1) 1 2 1 (by decide) (by decide) (by decide) (by decide) (by decide) (by decide) (by decide) (by decide) (by decide) (by decide)
  have o3 := law04_of 3 1 4 1 (by decide) (by decide) (by decide) (by decide) (by decide) (by decide) (by decide) (by decide) (by decide) (by decide)
  have o4 := law04_of (-4) 1 8 1 (by decide) (by decide) (by decide) (by decide) (by decide) (by decide) (by decide) (by decide) (by decide) (by decide)
  have o5 := law04_of 0 1 4 1 (by decide) (by decide) (by decide) (by decide) (by decide) (by decide) (by decide) (by decide) (by decide) (by decide)
  have m1 := interval_Mul (rq (Rat.divInt (-1) 1)) (rq (Rat.divInt 2 1)) (rq (Rat.divInt 3 1)) (rq (Rat.divInt 4 1)) (ok_rq (kn1.mono (by decide))) (ok_rq (k21.mono (by decide))) (ok_rq (k31.mono (by decide))) (ok_rq (k41.mono (by decide)))
  rw [rv_rq, rv_rq, rv_rq, rv_rq, show mulI (takeI (Rat.divInt (-1) 1) (Rat.divInt 2 1)) (takeI (Rat.divInt 3 1) (Rat.divInt 4 1)) = (Rat.divInt (-4) 1, Rat.divInt 8 1) by decide +kernel] at m1
  have s2 := ref04_SameI (Rat.divInt (-4) 1, Rat.divInt 8 1) (Rat.divInt (-4) 1, Rat.divInt 8 1) ⟨kn4.mono (by decide), k81.mono (by decide)⟩ ⟨kn4.mono (by decide), k81.mono (by decide)⟩
  rw [decide_eq_true rfl] at s2
  have q1 := interval_Square (rq (Rat.divInt (-1) 1)) (rq (Rat.divInt 2 1)) (ok_rq (kn1.mono (by decide))) (ok_rq (k21.mono (by decide)))
  rw [rv_rq, rv_rq, show sqI (takeI (Rat.divInt (-1) 1) (Rat.divInt 2 1)) = (Rat.divInt 0 1, Rat.divInt 4 1) by decide +kernel] at q1
  have s3 := ref04_SameI (Rat.divInt 0 1, Rat.divInt 4 1) (Rat.divInt 0 1, Rat.divInt 4 1) ⟨k01.mono (by decide), k41.mono (by decide)⟩ ⟨k01.mono (by decide), k41.mono (by decide)⟩
  rw [decide_eq_true rfl] at s3
  clear k2 k54 k32 kn1 k21 k31 k41 kn4 k81 k01
  generalize (Rat.divInt 5 4, Rat.divInt 3 2) = i1 at *
  generalize (Rat.divInt (-4) 1, Rat.divInt 8 1) = i4 at *
  generalize (Rat.divInt 0 1, Rat.divInt 4 1) = i5 at *
  generalize Rat.divInt (-1) 1 = u1 at *
  generalize Rat.divInt 2 1 = u2 at *
  generalize Rat.divInt 3 1 = u3 at *
  generalize Rat.divInt 4 1 = u4 at *
  generalize ((2 : Int) : Rat) = z2 at *
  refine ret_of_awp tab Try.func6 rfl rfl (Nat.le_of_ble_eq_true rfl) (fun w0 F0 => ?_)
  repeat' (first
    | (show awpL _ _ _ _ _; first | refine goL ?_ | refine cl 13 tt rfl rfl rfl (hr := f2) (k := ?_) | refine cl 12 tt rfl rfl rfl (hr := r1) (k := ?_) | refine cl 15 tt rfl rfl rfl (hr := o1) (k := ?_) | refine cl 14 tt rfl rfl rfl (hr := s1) (k := ?_) | refine cl 15 tt rfl rfl rfl (hr := o2) (k := ?_) | refine cl 15 tt rfl rfl rfl (hr := o3) (k := ?_) | refine cl 16 tt rfl rfl rfl (hr := m1) (k := ?_) | refine cl 15 tt rfl rfl rfl (hr := o4) (k := ?_) | refine cl 14 tt rfl rfl rfl (hr := s2) (k := ?_) | refine cl 17 tt rfl rfl rfl (hr := q1) (k := ?_) | refine cl 15 tt rfl rfl rfl (hr := o5) (k := ?_) | refine cl 14 tt rfl rfl rfl (hr := s3) (k := ?_) | (refine gdLD rfl rfl (fun _ => ?_) (fun _ => ?_) <;> try (exfalso; omega)) | (refine gdLN rfl rfl (fun _ => ?_) (fun _ => ?_) <;> try (exfalso; omega)) | refine gdL rfl rfl (fun _ => ?_) (fun _ => ?_))
    | (show awp _ _ _ _; first | refine goA ?_ | refine awp_reg 2 5 mixed (by kernel_rfl) (by kernel_rfl) ?_ | (refine awp_condD rfl (fun _ => ?_) (fun _ => ?_) <;> try (exfalso; omega)) | (refine awp_condN rfl (fun _ => ?_) (fun _ => ?_) <;> try (exfalso; omega)) | refine awp_cond rfl (fun _ => ?_) (fun _ => ?_))
    | (show andThen _ _ _ _; first | refine goN ?_)
    | (show inBlock _ _ _ _; first | refine goB ?_)
    | (show awpR _ _ _ _ _ _; first | refine goR ?_ | refine clR 13 tt rfl rfl rfl (hr := f2) (k := ?_) | refine clR 12 tt rfl rfl rfl (hr := r1) (k := ?_) | refine clR 15 tt rfl rfl rfl (hr := o1) (k := ?_) | refine clR 14 tt rfl rfl rfl (hr := s1) (k := ?_) | refine clR 15 tt rfl rfl rfl (hr := o2) (k := ?_) | refine clR 15 tt rfl rfl rfl (hr := o3) (k := ?_) | refine clR 16 tt rfl rfl rfl (hr := m1) (k := ?_) | refine clR 15 tt rfl rfl rfl (hr := o4) (k := ?_) | refine clR 14 tt rfl rfl rfl (hr := s2) (k := ?_) | refine clR 17 tt rfl rfl rfl (hr := q1) (k := ?_) | refine clR 15 tt rfl rfl rfl (hr := o5) (k := ?_) | refine clR 14 tt rfl rfl rfl (hr := s3) (k := ?_) | (refine gdRD rfl rfl (fun _ => ?_) (fun _ => ?_) <;> try (exfalso; omega)) | (refine gdRN rfl rfl (fun _ => ?_) (fun _ => ?_) <;> try (exfalso; omega)) | refine gdR rfl rfl (fun _ => ?_) (fun _ => ?_))
    | (show retPost _ _ _ _ _; first | refine finF true rfl rfl sc ?_ | refine finF false rfl rfl sc ?_ | refine finC false rfl rfl sc sc ?_ | refine finN rfl rfl sc ?_ | refine finL true rfl rfl sc rfl (LeR.cons rfl leL LeR.nil) ?_ | refine finE true rfl rfl sc ?_ | refine finE false rfl rfl sc ?_))
  rfl
theorem tmodFact (k n : Int) (h : 0 < n) : -n < k.tmod n ∧ k.tmod n < n ∧ k % n = if k.tmod n < 0 then k.tmod n + n else k.tmod n := by
  have h1 := Int.tmod_lt_of_pos k h
  have h2 := Int.lt_tmod_of_pos k h
  have h3 := Int.emod_nonneg k (show n ≠ 0 by omega)
  have h4 := Int.emod_lt_of_pos k h
  have e1 := Int.mul_tdiv_add_tmod k n
  have e2 := Int.mul_ediv_add_emod k n
  refine ⟨h2, h1, ?_⟩
  have hd : n * (k.tdiv n - k / n) = k % n - k.tmod n := by rw [Int.mul_sub]; omega
  split
  · have hb : -(2 * n) < n * (k.tdiv n - k / n) ∧ n * (k.tdiv n - k / n) < 2 * n ∧ 0 < n * (k.tdiv n - k / n) := by omega
    have h5 : 0 < k.tdiv n - k / n := Int.pos_of_mul_pos_right hb.2.2 h
    have h6 : k.tdiv n - k / n < 2 := by
      rcases Int.lt_or_le (k.tdiv n - k / n) 2 with h7 | h7
      · exact h7
      · have := Int.mul_le_mul_of_nonneg_left h7 (Int.le_of_lt h); omega
    rw [show k.tdiv n - k / n = 1 by omega] at hd
    omega
  · have hb : -n < n * (k.tdiv n - k / n) ∧ n * (k.tdiv n - k / n) < n := by omega
    have h5 : -1 < k.tdiv n - k / n := by
      rcases Int.lt_or_le (-1) (k.tdiv n - k / n) with h7 | h7
      · exact h7
      · have := Int.mul_le_mul_of_nonneg_left h7 (Int.le_of_lt h); omega
    have h6 : k.tdiv n - k / n < 1 := by
      rcases Int.lt_or_le (k.tdiv n - k / n) 1 with h7 | h7
      · exact h7
      · have := Int.mul_le_mul_of_nonneg_left h7 (Int.le_of_lt h); omega
    rw [show k.tdiv n - k / n = 0 by omega] at hd
    omega
theorem ref03_SameQ (x y : Rat) (hx : okQ 100000000000 x) (hy : okQ 100000000000 y) : Ret Try.prog 32 [qD x, qD y] (· = .bool (decide (x = y))) := by
  have := ref03_Same (rq x) (rq y) (okR_of hx (by decide)) (okR_of hy (by decide))
  rw [show decide (rq x = rq y) = decide (x = y) from decide_eq_decide.2 ⟨rq_inj, fun h => by rw [h]⟩] at this
  exact this
end Go.Proofs.Ytjjefhbceoeibaa
