/-
  A statement of the seat: what its contract is, and the claim. Conditions: as each says.
-/
import Derived.Test.YtlphlodailailaaGreatY13
import Derived.Test.YtlphlodailailaaGreatA08
import Derived.Test.YtlphlodailailaaGreatA09
import Derived.Test.YtlphlodailailaaGreatA10
set_option linter.unusedVariables false
set_option linter.unusedSimpArgs false
set_option maxHeartbeats 8000000
namespace Go.Proofs.YtlphlodailailaaGreat
open Go.Vw
attribute [local irreducible] awp awpL awpR

theorem ref05_Trim (l : List R3) (hn : l.length ≤ 1000) (hl : ∀ r ∈ l, RatOk r 10000000) : Ret Tryz.prog 44 [rsD l] (· = qsD (trimP (l.map rv))) := by
  have tl := ref03_TakeL l (by omega) (fun r hr => (hl r hr).up (by decide))
  have hq : ∀ x ∈ l.map rv, okQ 10000000 x := fun x hx => by
    obtain ⟨r, hr, rfl⟩ := List.mem_map.1 hx
    exact okQ_rv (hl r hr) (by decide)
  have hpn : (l.map rv).length ≤ 1000 := by rw [List.length_map]; exact hn
  generalize l.map rv = p at *
  have ex : ∀ a, a ≤ p.length → (∀ i, a ≤ i → i < p.length → cf p i = 0) → (0 < a → cf p (a - 1) ≠ 0) → trimP p = p.take a := fun a h1 h2 h3 => trim_take h1 (fun i h h' => h2 i h h') h3
  clear hl
  refine ret_of_awp tab Tryz.func44 rfl rfl (Nat.le_of_ble_eq_true rfl) (fun w0 F0 => ?_)
  repeat' (first
    | (show awpL _ _ _ _ _; first | refine goL ?_ | refine cl 90 tt rfl rfl rfl (hr := tl) (k := ?_) | (refine gdLG ?_ ?_ <;> intro _ <;> try (exfalso; omega)))
    | (show awp _ _ _ _; first | refine goA ?_ | (refine cdG ?_ ?_ <;> intro _ <;> try (exfalso; omega)))
    | (show andThen _ _ _ _; refine goN ?_)
    | (show inBlock _ _ _ _; refine goB ?_)
    | (show retPost _ _ _ _ _; refine finG ?_))
  refine awp_loop1 (fun (a : Nat) => ([(3, .d (qsD (p.take a)))], [])) (fun a => a ≤ p.length ∧ ∀ i, a ≤ i → i < p.length → cf p i = 0) (fun a => a) p.length ⟨Nat.le_refl _, fun i h1 h2 => by omega⟩ ⟨by rw [List.take_length]; rfl, rfl⟩ trivial (fun a ha => ?_)
  obtain ⟨a1, a2⟩ := ha
  have ll : (p.take a).length = a := by rw [List.length_take]; omega
  have e2 := ex a a1 a2
  by_cases c : 0 < a
  · have ea : (((p.take a).length : Int) - 1).toNat = a - 1 := by omega
    have eg : (p.take a).getD (a - 1) 0 = cf p (a - 1) := by
      unfold cf
      rw [List.getD_eq_getElem?_getD, List.getD_eq_getElem?_getD, List.getElem?_take_of_lt (by omega)]
    have sg := ref03_SignQ ((p.take a).getD (((p.take a).length : Int) - 1).toNat 0) (by rw [ea, eg]; exact (ok_cf hq (by decide) _).mono (by decide))
    rw [ea, eg] at sg
    have hz := sign_num (cf p (a - 1))
    have sg2 : Ret Tryz.prog 91 [qD ((p.take a).getD (((p.take a).length : Int) - 1).toNat 0)] (· = .int .i64 (cf p (a - 1)).num.sign) := by rw [ea, eg]; exact sg
    have tt2 : (p.take a).take (a - 1) = p.take (a - 1) := by rw [List.take_take]; congr 1; omega
    have a3 : cf p (a - 1) = 0 → ∀ i, a - 1 ≤ i → i < p.length → cf p i = 0 := fun h i h1 h2 => by
      by_cases e : i = a - 1
      · rw [e]; exact h
      · exact a2 i (by omega) h2
    generalize cf p (a - 1) = x at *
    generalize x.num.sign = z at *
    clear ex hq sg tl
    obtain ⟨s, hs⟩ : ∃ s, p.take a = s := ⟨_, rfl⟩
    rw [hs] at ll ea eg sg2 tt2 e2 ⊢
    repeat' (first
      | (show awpL _ _ _ _ _; first | refine goL ?_ | refine cl 91 tt rfl rfl rfl (hr := sg2) (k := ?_) | (refine gdLG ?_ ?_ <;> intro _ <;> try (exfalso; omega)))
      | (show awp _ _ _ _; first | refine goA ?_ | (refine cdG ?_ ?_ <;> intro _ <;> try (exfalso; omega)))
      | (show andThen _ _ _ _; refine goN ?_)
      | (show inBlock _ _ _ _; refine goB ?_)
      | (show retPost _ _ _ _ _; refine finG ?_))
    · exact ⟨a - 1, ⟨by omega, a3 (hz.1 ‹_›)⟩, by omega, ⟨by
        show V.d _ = V.d (qsD (p.take (a - 1)))
        rw [← tt2, ← ea], rfl⟩, trivial⟩
    · rw [e2 fun _ h => ‹¬ _› (hz.2 h)]
  · clear ex hq tl
    rw [e2 fun h => absurd h c]
    repeat' (first
      | (show awpL _ _ _ _ _; first | refine goL ?_ | (refine gdLG ?_ ?_ <;> intro _ <;> try (exfalso; omega)))
      | (show awp _ _ _ _; first | refine goA ?_ | (refine cdG ?_ ?_ <;> intro _ <;> try (exfalso; omega)))
      | (show andThen _ _ _ _; refine goN ?_)
      | (show inBlock _ _ _ _; refine goB ?_)
      | (show retPost _ _ _ _ _; refine finG ?_))
    rfl
end Go.Proofs.YtlphlodailailaaGreat
