/-
  A statement of the seat: what its contract is, and the claim. Conditions: as each says.
-/
import Derived.Test.YtlphlodailailaaGreatA04
import Derived.Test.YtlphlodailailaaGreatA08
import Derived.Test.YtlphlodailailaaGreatA10
set_option linter.unusedVariables false
set_option linter.unusedSimpArgs false
set_option maxHeartbeats 8000000
namespace Go.Proofs.YtlphlodailailaaGreat
open Go.Vw
attribute [local irreducible] awp awpL awpR

theorem backward_iter (l : List R3) (hn : l.length ≤ 1000) : Iter Tryz.prog 126 [.ptr [rsD l] 0] l.length (fun k => [.int .i64 ((l.length : Int) - 1 - k), rD (l.getD ((l.length : Int) - 1 - k).toNat r0)]) := by
  refine iter_of_awpI tab Tryz.func126 rfl rfl (Nat.le_of_ble_eq_true rfl) (fun bs ks hfam L w0 F0 A io0 hY => ?_)
  refine awpI_seq (awpI_region ?_ nout)
  repeat' (first
    | (show awpL _ _ _ _ _; first | refine goL ?_ | (refine gdLG ?_ ?_ <;> intro _ <;> try (exfalso; omega)))
    | (show awp _ _ _ _; first | refine goA ?_ | (refine cdG ?_ ?_ <;> intro _ <;> try (exfalso; omega)))
    | (show andThen _ _ _ _; refine goN ?_)
    | (show inBlock _ _ _ _; refine goB ?_)
    | (show retPost _ _ _ _ _; refine finG ?_))
  refine awpI_block (awpI_loop1 (fun (k : Nat) => ([(0, .d (.raw (.func (.yield L) #[] #[]))), (1, .d (.ptr [rsD l] 0)), (3, .d (.int .i64 ((l.length : Int) - 1 - k)))], bs k)) (fun k => k ≤ l.length) (fun k => l.length - k) 0 (by omega) ⟨rfl, rfl, iv (by omega), rfl⟩ (hfam.of rfl) (fun k hk => ?_) (fun k => by show (coverT _ _ && coverB (bs k) (bs k)) = true; rw [hfam.covB k]; rfl))
  refine awpI_seq (awpI_seq (awpI_region ?_ nout))
  repeat' (first
    | (show awpL _ _ _ _ _; first | refine goL ?_ | (refine gdLG ?_ ?_ <;> intro _ <;> try (exfalso; omega)))
    | (show awp _ _ _ _; first | refine goA ?_ | (refine cdG ?_ ?_ <;> intro _ <;> try (exfalso; omega)))
    | (show andThen _ _ _ _; refine goN ?_)
    | (show inBlock _ _ _ _; refine goB ?_)
    | (show retPost _ _ _ _ _; refine finG ?_))
  refine awpI_cond rfl (fun h => ?_) (fun h => ?_)
  · have h := of_decide_eq_true h
    refine awpI_skip ?_
    show awpI _ _ _ _ _ _
    refine awpI_seq (awpI_block (awpI_seq (awpI_cut 6 nout ?_)))
    repeat' (first
      | (show awpL _ _ _ _ _; first | refine goL ?_ | (refine gdLG ?_ ?_ <;> intro _ <;> try (exfalso; omega)))
      | (show awp _ _ _ _; first | refine goA ?_ | (refine cdG ?_ ?_ <;> intro _ <;> try (exfalso; omega)))
      | (show andThen _ _ _ _; refine goN ?_)
      | (show inBlock _ _ _ _; refine goB ?_)
      | (show retPost _ _ _ _ _; refine finG ?_))
    refine lI_yieldF hfam (hY k (by omega)) rfl rfl rfl rfl rfl rfl leVT (hfam.of rfl) ?_
    refine awpLI_all ?_ nout
    repeat' (first
      | (show awpL _ _ _ _ _; first | refine goL ?_ | (refine gdLG ?_ ?_ <;> intro _ <;> try (exfalso; omega)))
      | (show awp _ _ _ _; first | refine goA ?_ | (refine cdG ?_ ?_ <;> intro _ <;> try (exfalso; omega)))
      | (show andThen _ _ _ _; refine goN ?_)
      | (show inBlock _ _ _ _; refine goB ?_)
      | (show retPost _ _ _ _ _; refine finG ?_))
    refine awpI_cond rfl (fun h => absurd h (by simp)) (fun _ => ?_)
    refine awpI_skip ?_
    show awpI _ _ _ _ _ _
    refine awpI_region ?_ nout
    repeat' (first
      | (show awpL _ _ _ _ _; first | refine goL ?_ | (refine gdLG ?_ ?_ <;> intro _ <;> try (exfalso; omega)))
      | (show awp _ _ _ _; first | refine goA ?_ | (refine cdG ?_ ?_ <;> intro _ <;> try (exfalso; omega)))
      | (show andThen _ _ _ _; refine goN ?_)
      | (show inBlock _ _ _ _; refine goB ?_)
      | (show retPost _ _ _ _ _; refine finG ?_))
    exact ⟨k + 1, by omega, by omega, ⟨rfl, rfl, iv (by omega), rfl⟩, hfam.same rfl⟩
  · have h := of_decide_eq_false h
    refine awpI_exit ?_
    have e : k = l.length := by omega
    subst e
    exact ⟨rfl, ⟨[], rfl, .inr ⟨by simp, [], rfl, LeVT.nil⟩⟩, hfam.of rfl⟩
end Go.Proofs.YtlphlodailailaaGreat
