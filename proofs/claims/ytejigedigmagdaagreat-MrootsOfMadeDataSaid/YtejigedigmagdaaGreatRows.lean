/-
  No cell of these rows narrows 'for every input' (looked for: loops, veiled, ifaces, maps, wideKeys, modest, calm, conditions, laid).
  DERIVED. THE GIVEN ROWS OF THIS SEAT. 6 by the template 'for every input the law returns true; each argument reads behind the call as it read before'; 0 by the template 'total and deterministic' (their statements: YtejigedigmagdaaGreatTotals.lean).
  GIVEN WITH THE SEED: the statements are not yours to turn. If you find one false, say at which input.
  Laid BY PROGRAM, IN A SANDBOX (cutbox-rows.mjs): the forced cells as the released guide's own fill.sh prints them over the translation ea8fa2539bba99e5… (all of the seat's roots in one cut). By AI agents, Wed Nov 11 2026. No macro, syntax, notation, axiom, sorry.
-/
import Derived.Test.YtejigedigmagdaaGreatChecked
import GoSem.Claim
import GoSem.ClaimJoined
import GoSem.ClaimMapViews
import Derived.JoinedTies
import Derived.KernelRfl
namespace Go.Proofs.YtejigedigmagdaaGreat
/- THE CELL 'sum', in the pinned program and in every row, IS THE sha256 OF THE DUMP (.gsa) THAT YtejigedigmagdaaGreatProg.lean LOADS. Nothing in Lean hashes anything: it is a label: what it is worth is what the hold of that sum in a sandbox is worth. -/
noncomputable def Tryz.pinned : Pinned := { name := "ytejigedigmagdaagreat", sum := "ea8fa2539bba99e54a2dc844179ba486ba3f9adc9712678873e8cf973e26682e", checked := Tryz.checked }
namespace Rows
def none {H : Type} : Left H := { results := [], args := [] }

/-- 'robuststatslaw22.MrootsOfHuber': WHATEVER THE INPUT: true; the input reads as it did. -/
def mrootsOfHuberSpec : ChangeSpec := { name := "mrootsOfHuber", fn := fun _ => fun
  | [d1, d2] => { results := [.lit (.bool true)], args := [d1, d2] }
  | _ => none }
def mrootsOfHuberRow : OpenClaim := { program := "ytejigedigmagdaagreat", sum := "ea8fa2539bba99e54a2dc844179ba486ba3f9adc9712678873e8cf973e26682e", func := "robuststats/robuststatslaw22.MrootsOfHuber", spec := "mrootsOfHuber", unfollowed := true, recurses := true, named := ["math/bits.overflowError"], apart := false }
def MrootsOfHuberSaid : Prop := mrootsOfHuberRow.holds Tryz.pinned (OpenSpec.ofChange mrootsOfHuberSpec)

/-- ITS FALSE NEIGHBOUR: 'it returns false'. Refute it at one input. -/
def mrootsOfHuberWrong : ChangeSpec := { name := "mrootsOfHuber", fn := fun _ => fun
  | [d1, d2] => { results := [.lit (.bool false)], args := [d1, d2] }
  | _ => none }
def MrootsOfHuberWrongFalsely : Prop := mrootsOfHuberRow.holds Tryz.pinned (OpenSpec.ofChange mrootsOfHuberWrong)

/-- 'robuststatslaw22.MrootsOfMadeData': WHATEVER THE INPUT: true; the input reads as it did. -/
def mrootsOfMadeDataSpec : ChangeSpec := { name := "mrootsOfMadeData", fn := fun _ => fun
  | [d1, d2, d3] => { results := [.lit (.bool true)], args := [d1, d2, d3] }
  | _ => none }
def mrootsOfMadeDataRow : OpenClaim := { program := "ytejigedigmagdaagreat", sum := "ea8fa2539bba99e54a2dc844179ba486ba3f9adc9712678873e8cf973e26682e", func := "robuststats/robuststatslaw22.MrootsOfMadeData", spec := "mrootsOfMadeData", unfollowed := true, recurses := true, named := ["math/bits.overflowError"], apart := false }
def MrootsOfMadeDataSaid : Prop := mrootsOfMadeDataRow.holds Tryz.pinned (OpenSpec.ofChange mrootsOfMadeDataSpec)

/-- ITS FALSE NEIGHBOUR: 'it returns false'. Refute it at one input. -/
def mrootsOfMadeDataWrong : ChangeSpec := { name := "mrootsOfMadeData", fn := fun _ => fun
  | [d1, d2, d3] => { results := [.lit (.bool false)], args := [d1, d2, d3] }
  | _ => none }
def MrootsOfMadeDataWrongFalsely : Prop := mrootsOfMadeDataRow.holds Tryz.pinned (OpenSpec.ofChange mrootsOfMadeDataWrong)

/-- 'robuststatslaw22.MrootsLieBetweenObservations': WHATEVER THE INPUT: true; the input reads as it did. -/
def mrootsLieBetweenObservationsSpec : ChangeSpec := { name := "mrootsLieBetweenObservations", fn := fun _ => fun
  | [d1, d2] => { results := [.lit (.bool true)], args := [d1, d2] }
  | _ => none }
def mrootsLieBetweenObservationsRow : OpenClaim := { program := "ytejigedigmagdaagreat", sum := "ea8fa2539bba99e54a2dc844179ba486ba3f9adc9712678873e8cf973e26682e", func := "robuststats/robuststatslaw22.MrootsLieBetweenObservations", spec := "mrootsLieBetweenObservations", unfollowed := true, recurses := true, named := ["math/bits.overflowError"], apart := false }
def MrootsLieBetweenObservationsSaid : Prop := mrootsLieBetweenObservationsRow.holds Tryz.pinned (OpenSpec.ofChange mrootsLieBetweenObservationsSpec)

/-- ITS FALSE NEIGHBOUR: 'it returns false'. Refute it at one input. -/
def mrootsLieBetweenObservationsWrong : ChangeSpec := { name := "mrootsLieBetweenObservations", fn := fun _ => fun
  | [d1, d2] => { results := [.lit (.bool false)], args := [d1, d2] }
  | _ => none }
def MrootsLieBetweenObservationsWrongFalsely : Prop := mrootsLieBetweenObservationsRow.holds Tryz.pinned (OpenSpec.ofChange mrootsLieBetweenObservationsWrong)

/-- 'robuststatslaw22.MrootsOfTukeyMove': WHATEVER THE INPUT: true; the input reads as it did. -/
def mrootsOfTukeyMoveSpec : ChangeSpec := { name := "mrootsOfTukeyMove", fn := fun _ => fun
  | [d1, d2, d3, d4] => { results := [.lit (.bool true)], args := [d1, d2, d3, d4] }
  | _ => none }
def mrootsOfTukeyMoveRow : OpenClaim := { program := "ytejigedigmagdaagreat", sum := "ea8fa2539bba99e54a2dc844179ba486ba3f9adc9712678873e8cf973e26682e", func := "robuststats/robuststatslaw22.MrootsOfTukeyMove", spec := "mrootsOfTukeyMove", unfollowed := true, recurses := true, named := ["math/bits.overflowError"], apart := false }
def MrootsOfTukeyMoveSaid : Prop := mrootsOfTukeyMoveRow.holds Tryz.pinned (OpenSpec.ofChange mrootsOfTukeyMoveSpec)

/-- ITS FALSE NEIGHBOUR: 'it returns false'. Refute it at one input. -/
def mrootsOfTukeyMoveWrong : ChangeSpec := { name := "mrootsOfTukeyMove", fn := fun _ => fun
  | [d1, d2, d3, d4] => { results := [.lit (.bool false)], args := [d1, d2, d3, d4] }
  | _ => none }
def MrootsOfTukeyMoveWrongFalsely : Prop := mrootsOfTukeyMoveRow.holds Tryz.pinned (OpenSpec.ofChange mrootsOfTukeyMoveWrong)

/-- 'robuststatslaw22.MrootsOfHuberNearMedians': WHATEVER THE INPUT: true; the input reads as it did. -/
def mrootsOfHuberNearMediansSpec : ChangeSpec := { name := "mrootsOfHuberNearMedians", fn := fun _ => fun
  | [d1, d2] => { results := [.lit (.bool true)], args := [d1, d2] }
  | _ => none }
def mrootsOfHuberNearMediansRow : OpenClaim := { program := "ytejigedigmagdaagreat", sum := "ea8fa2539bba99e54a2dc844179ba486ba3f9adc9712678873e8cf973e26682e", func := "robuststats/robuststatslaw22.MrootsOfHuberNearMedians", spec := "mrootsOfHuberNearMedians", unfollowed := true, recurses := true, named := ["math/bits.overflowError"], apart := false }
def MrootsOfHuberNearMediansSaid : Prop := mrootsOfHuberNearMediansRow.holds Tryz.pinned (OpenSpec.ofChange mrootsOfHuberNearMediansSpec)

/-- ITS FALSE NEIGHBOUR: 'it returns false'. Refute it at one input. -/
def mrootsOfHuberNearMediansWrong : ChangeSpec := { name := "mrootsOfHuberNearMedians", fn := fun _ => fun
  | [d1, d2] => { results := [.lit (.bool false)], args := [d1, d2] }
  | _ => none }
def MrootsOfHuberNearMediansWrongFalsely : Prop := mrootsOfHuberNearMediansRow.holds Tryz.pinned (OpenSpec.ofChange mrootsOfHuberNearMediansWrong)

/-- 'robuststatslaw22.MrootsOfHuberAreAll': WHATEVER THE INPUT: true; the input reads as it did. -/
def mrootsOfHuberAreAllSpec : ChangeSpec := { name := "mrootsOfHuberAreAll", fn := fun _ => fun
  | [d1, d2, d3] => { results := [.lit (.bool true)], args := [d1, d2, d3] }
  | _ => none }
def mrootsOfHuberAreAllRow : OpenClaim := { program := "ytejigedigmagdaagreat", sum := "ea8fa2539bba99e54a2dc844179ba486ba3f9adc9712678873e8cf973e26682e", func := "robuststats/robuststatslaw22.MrootsOfHuberAreAll", spec := "mrootsOfHuberAreAll", unfollowed := true, recurses := true, named := ["math/bits.overflowError"], apart := false }
def MrootsOfHuberAreAllSaid : Prop := mrootsOfHuberAreAllRow.holds Tryz.pinned (OpenSpec.ofChange mrootsOfHuberAreAllSpec)

/-- ITS FALSE NEIGHBOUR: 'it returns false'. Refute it at one input. -/
def mrootsOfHuberAreAllWrong : ChangeSpec := { name := "mrootsOfHuberAreAll", fn := fun _ => fun
  | [d1, d2, d3] => { results := [.lit (.bool false)], args := [d1, d2, d3] }
  | _ => none }
def MrootsOfHuberAreAllWrongFalsely : Prop := mrootsOfHuberAreAllRow.holds Tryz.pinned (OpenSpec.ofChange mrootsOfHuberAreAllWrong)

/- THE SECOND FORM. 'bulk': how many values and letters a reading holds, each counted each time it is reached (what is shared counts as often as it is met; a slice's spare places count too). A statement '..UptoSaid' is the law's where the arguments, and the package variables that the reading takes, are together of bulk at most 1048576: NARROWER than '..Said'. Prove '..Said' where nothing that the law and all that it calls make is longer than what came in: it says more and counts as full. Else prove '..UptoSaid'. A law counts once. -/
mutual
def uptoBulk {H : Type} : DataW H → Nat
  | .lit (.string bytes) => bytes.length + 1
  | .lit _ => 1
  | .nil => 1
  | .ptr d => uptoBulk d + 1
  | .slice elems spare => uptoBulkAll elems + uptoBulkAll spare + 1
  | .agg parts => uptoBulkAll parts + 1
  | .iface _ d => uptoBulk d + 1
  | .map entries => uptoBulkEntries entries + 1
  | .held _ => 1
def uptoBulkAll {H : Type} : List (DataW H) → Nat
  | [] => 0
  | d :: r => uptoBulk d + uptoBulkAll r
def uptoBulkEntries {H : Type} : List (Lit × DataW H) → Nat
  | [] => 0
  | x :: r => uptoBulkEntry x + uptoBulkEntries r
def uptoBulkEntry {H : Type} : Lit × DataW H → Nat
  | (.string bytes, d) => bytes.length + uptoBulk d + 1
  | (_, d) => uptoBulk d + 1
 end
def uptoSmall : (H : Type) → List (DataW H) → Bool := fun _ ds => decide (uptoBulkAll ds ≤ 1048576)
def OpenSpec.upto (s : _root_.Go.ChangeSpec) : _root_.Go.OpenSpec := { _root_.Go.OpenSpec.ofChange s with cond := some uptoSmall }

/-- 'robuststatslaw22.MrootsOfHuber', WHERE WHAT IT READS IS OF BULK AT MOST 1048576: true; the input reads as it did. -/
def mrootsOfHuberUptoRow : OpenClaim := { program := "ytejigedigmagdaagreat", sum := "ea8fa2539bba99e54a2dc844179ba486ba3f9adc9712678873e8cf973e26682e", func := "robuststats/robuststatslaw22.MrootsOfHuber", spec := "mrootsOfHuber", unfollowed := true, recurses := true, named := ["math/bits.overflowError"], apart := false, narrowed := true }
def MrootsOfHuberUptoSaid : Prop := mrootsOfHuberUptoRow.holds Tryz.pinned (OpenSpec.upto mrootsOfHuberSpec)

/-- 'robuststatslaw22.MrootsOfMadeData', WHERE WHAT IT READS IS OF BULK AT MOST 1048576: true; the input reads as it did. -/
def mrootsOfMadeDataUptoRow : OpenClaim := { program := "ytejigedigmagdaagreat", sum := "ea8fa2539bba99e54a2dc844179ba486ba3f9adc9712678873e8cf973e26682e", func := "robuststats/robuststatslaw22.MrootsOfMadeData", spec := "mrootsOfMadeData", unfollowed := true, recurses := true, named := ["math/bits.overflowError"], apart := false, narrowed := true }
def MrootsOfMadeDataUptoSaid : Prop := mrootsOfMadeDataUptoRow.holds Tryz.pinned (OpenSpec.upto mrootsOfMadeDataSpec)

/-- 'robuststatslaw22.MrootsLieBetweenObservations', WHERE WHAT IT READS IS OF BULK AT MOST 1048576: true; the input reads as it did. -/
def mrootsLieBetweenObservationsUptoRow : OpenClaim := { program := "ytejigedigmagdaagreat", sum := "ea8fa2539bba99e54a2dc844179ba486ba3f9adc9712678873e8cf973e26682e", func := "robuststats/robuststatslaw22.MrootsLieBetweenObservations", spec := "mrootsLieBetweenObservations", unfollowed := true, recurses := true, named := ["math/bits.overflowError"], apart := false, narrowed := true }
def MrootsLieBetweenObservationsUptoSaid : Prop := mrootsLieBetweenObservationsUptoRow.holds Tryz.pinned (OpenSpec.upto mrootsLieBetweenObservationsSpec)

/-- 'robuststatslaw22.MrootsOfTukeyMove', WHERE WHAT IT READS IS OF BULK AT MOST 1048576: true; the input reads as it did. -/
def mrootsOfTukeyMoveUptoRow : OpenClaim := { program := "ytejigedigmagdaagreat", sum := "ea8fa2539bba99e54a2dc844179ba486ba3f9adc9712678873e8cf973e26682e", func := "robuststats/robuststatslaw22.MrootsOfTukeyMove", spec := "mrootsOfTukeyMove", unfollowed := true, recurses := true, named := ["math/bits.overflowError"], apart := false, narrowed := true }
def MrootsOfTukeyMoveUptoSaid : Prop := mrootsOfTukeyMoveUptoRow.holds Tryz.pinned (OpenSpec.upto mrootsOfTukeyMoveSpec)

/-- 'robuststatslaw22.MrootsOfHuberNearMedians', WHERE WHAT IT READS IS OF BULK AT MOST 1048576: true; the input reads as it did. -/
def mrootsOfHuberNearMediansUptoRow : OpenClaim := { program := "ytejigedigmagdaagreat", sum := "ea8fa2539bba99e54a2dc844179ba486ba3f9adc9712678873e8cf973e26682e", func := "robuststats/robuststatslaw22.MrootsOfHuberNearMedians", spec := "mrootsOfHuberNearMedians", unfollowed := true, recurses := true, named := ["math/bits.overflowError"], apart := false, narrowed := true }
def MrootsOfHuberNearMediansUptoSaid : Prop := mrootsOfHuberNearMediansUptoRow.holds Tryz.pinned (OpenSpec.upto mrootsOfHuberNearMediansSpec)

/-- 'robuststatslaw22.MrootsOfHuberAreAll', WHERE WHAT IT READS IS OF BULK AT MOST 1048576: true; the input reads as it did. -/
def mrootsOfHuberAreAllUptoRow : OpenClaim := { program := "ytejigedigmagdaagreat", sum := "ea8fa2539bba99e54a2dc844179ba486ba3f9adc9712678873e8cf973e26682e", func := "robuststats/robuststatslaw22.MrootsOfHuberAreAll", spec := "mrootsOfHuberAreAll", unfollowed := true, recurses := true, named := ["math/bits.overflowError"], apart := false, narrowed := true }
def MrootsOfHuberAreAllUptoSaid : Prop := mrootsOfHuberAreAllUptoRow.holds Tryz.pinned (OpenSpec.upto mrootsOfHuberAreAllSpec)

end Rows
end Go.Proofs.YtejigedigmagdaaGreat
