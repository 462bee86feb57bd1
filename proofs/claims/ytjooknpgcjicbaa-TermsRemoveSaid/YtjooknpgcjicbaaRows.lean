/-
  No cell of these rows narrows 'for every input' (looked for: loops, veiled, ifaces, maps, wideKeys, modest, calm, conditions, laid).
  DERIVED. THE GIVEN ROWS OF THIS SEAT. 6 by the template 'for every input the law returns true; each argument reads behind the call as it read before'; 0 by the template 'total and deterministic' (their statements: YtjooknpgcjicbaaTotals.lean).
  GIVEN WITH THE SEED: the statements are not yours to turn. If you find one false, say at which input.
  Laid BY PROGRAM, IN A SANDBOX (cutbox-rows.mjs): the forced cells as the released guide's own fill.sh prints them over the translation eaccaa81af41e279… (all of the seat's roots in one cut). By AI agents, Wed Nov 11 2026. No macro, syntax, notation, axiom, sorry.
-/
import Derived.Test.YtjooknpgcjicbaaChecked
import GoSem.Claim
import GoSem.ClaimJoined
import GoSem.ClaimMapViews
import Derived.JoinedTies
import Derived.KernelRfl
namespace Go.Proofs.Ytjooknpgcjicbaa
/- THE CELL 'sum', in the pinned program and in every row, IS THE sha256 OF THE DUMP (.gsa) THAT YtjooknpgcjicbaaProg.lean LOADS. Nothing in Lean hashes anything: it is a label: what it is worth is what the hold of that sum in a sandbox is worth. -/
noncomputable def Try.pinned : Pinned := { name := "ytjooknpgcjicbaa", sum := "eaccaa81af41e279e69cce3ae4911009fbdc4eff69bc99adb665a270a077005e", checked := Try.checked }
namespace Rows
def none {H : Type} : Left H := { results := [], args := [] }

/-- 'robuststatslaw10.TermsExpand': WHATEVER THE INPUT: true; the input reads as it did. -/
def termsExpandSpec : ChangeSpec := { name := "termsExpand", fn := fun _ => fun
  | [d] => { results := [.lit (.bool true)], args := [d] }
  | _ => none }
def termsExpandRow : OpenClaim := { program := "ytjooknpgcjicbaa", sum := "eaccaa81af41e279e69cce3ae4911009fbdc4eff69bc99adb665a270a077005e", func := "robuststats/robuststatslaw10.TermsExpand", spec := "termsExpand", unfollowed := true, recurses := true, apart := false }
def TermsExpandSaid : Prop := termsExpandRow.holds Try.pinned (OpenSpec.ofChange termsExpandSpec)

/-- ITS FALSE NEIGHBOUR: 'it returns false'. Refute it at one input. -/
def termsExpandWrong : ChangeSpec := { name := "termsExpand", fn := fun _ => fun
  | [d] => { results := [.lit (.bool false)], args := [d] }
  | _ => none }
def TermsExpandWrongFalsely : Prop := termsExpandRow.holds Try.pinned (OpenSpec.ofChange termsExpandWrong)

/-- 'robuststatslaw10.TermsCheck': WHATEVER THE INPUT: true; the input reads as it did. -/
def termsCheckSpec : ChangeSpec := { name := "termsCheck", fn := fun _ => fun
  | [d] => { results := [.lit (.bool true)], args := [d] }
  | _ => none }
def termsCheckRow : OpenClaim := { program := "ytjooknpgcjicbaa", sum := "eaccaa81af41e279e69cce3ae4911009fbdc4eff69bc99adb665a270a077005e", func := "robuststats/robuststatslaw10.TermsCheck", spec := "termsCheck", unfollowed := true, recurses := true, apart := false }
def TermsCheckSaid : Prop := termsCheckRow.holds Try.pinned (OpenSpec.ofChange termsCheckSpec)

/-- ITS FALSE NEIGHBOUR: 'it returns false'. Refute it at one input. -/
def termsCheckWrong : ChangeSpec := { name := "termsCheck", fn := fun _ => fun
  | [d] => { results := [.lit (.bool false)], args := [d] }
  | _ => none }
def TermsCheckWrongFalsely : Prop := termsCheckRow.holds Try.pinned (OpenSpec.ofChange termsCheckWrong)

/-- 'robuststatslaw10.TermsAreValid': WHATEVER THE INPUT: true; the input reads as it did. -/
def termsAreValidSpec : ChangeSpec := { name := "termsAreValid", fn := fun _ => fun
  | [d] => { results := [.lit (.bool true)], args := [d] }
  | _ => none }
def termsAreValidRow : OpenClaim := { program := "ytjooknpgcjicbaa", sum := "eaccaa81af41e279e69cce3ae4911009fbdc4eff69bc99adb665a270a077005e", func := "robuststats/robuststatslaw10.TermsAreValid", spec := "termsAreValid", unfollowed := true, recurses := true, apart := false }
def TermsAreValidSaid : Prop := termsAreValidRow.holds Try.pinned (OpenSpec.ofChange termsAreValidSpec)

/-- ITS FALSE NEIGHBOUR: 'it returns false'. Refute it at one input. -/
def termsAreValidWrong : ChangeSpec := { name := "termsAreValid", fn := fun _ => fun
  | [d] => { results := [.lit (.bool false)], args := [d] }
  | _ => none }
def TermsAreValidWrongFalsely : Prop := termsAreValidRow.holds Try.pinned (OpenSpec.ofChange termsAreValidWrong)

/-- 'robuststatslaw10.TermsFollowLaws': WHATEVER THE INPUT: true; the input reads as it did. -/
def termsFollowLawsSpec : ChangeSpec := { name := "termsFollowLaws", fn := fun _ => fun
  | [d1, d2, d3] => { results := [.lit (.bool true)], args := [d1, d2, d3] }
  | _ => none }
def termsFollowLawsRow : OpenClaim := { program := "ytjooknpgcjicbaa", sum := "eaccaa81af41e279e69cce3ae4911009fbdc4eff69bc99adb665a270a077005e", func := "robuststats/robuststatslaw10.TermsFollowLaws", spec := "termsFollowLaws", unfollowed := true, recurses := true, apart := false }
def TermsFollowLawsSaid : Prop := termsFollowLawsRow.holds Try.pinned (OpenSpec.ofChange termsFollowLawsSpec)

/-- ITS FALSE NEIGHBOUR: 'it returns false'. Refute it at one input. -/
def termsFollowLawsWrong : ChangeSpec := { name := "termsFollowLaws", fn := fun _ => fun
  | [d1, d2, d3] => { results := [.lit (.bool false)], args := [d1, d2, d3] }
  | _ => none }
def TermsFollowLawsWrongFalsely : Prop := termsFollowLawsRow.holds Try.pinned (OpenSpec.ofChange termsFollowLawsWrong)

/-- 'robuststatslaw10.TermsRemove': WHATEVER THE INPUT: true; the input reads as it did. -/
def termsRemoveSpec : ChangeSpec := { name := "termsRemove", fn := fun _ => fun
  | [d1, d2] => { results := [.lit (.bool true)], args := [d1, d2] }
  | _ => none }
def termsRemoveRow : OpenClaim := { program := "ytjooknpgcjicbaa", sum := "eaccaa81af41e279e69cce3ae4911009fbdc4eff69bc99adb665a270a077005e", func := "robuststats/robuststatslaw10.TermsRemove", spec := "termsRemove", unfollowed := true, recurses := true, apart := false }
def TermsRemoveSaid : Prop := termsRemoveRow.holds Try.pinned (OpenSpec.ofChange termsRemoveSpec)

/-- ITS FALSE NEIGHBOUR: 'it returns false'. Refute it at one input. -/
def termsRemoveWrong : ChangeSpec := { name := "termsRemove", fn := fun _ => fun
  | [d1, d2] => { results := [.lit (.bool false)], args := [d1, d2] }
  | _ => none }
def TermsRemoveWrongFalsely : Prop := termsRemoveRow.holds Try.pinned (OpenSpec.ofChange termsRemoveWrong)

/-- 'robuststatslaw10.TermsOfPowers': WHATEVER THE INPUT: true; the input reads as it did. -/
def termsOfPowersSpec : ChangeSpec := { name := "termsOfPowers", fn := fun _ => fun
  | [d1, d2] => { results := [.lit (.bool true)], args := [d1, d2] }
  | _ => none }
def termsOfPowersRow : OpenClaim := { program := "ytjooknpgcjicbaa", sum := "eaccaa81af41e279e69cce3ae4911009fbdc4eff69bc99adb665a270a077005e", func := "robuststats/robuststatslaw10.TermsOfPowers", spec := "termsOfPowers", unfollowed := true, recurses := true, apart := false }
def TermsOfPowersSaid : Prop := termsOfPowersRow.holds Try.pinned (OpenSpec.ofChange termsOfPowersSpec)

/-- ITS FALSE NEIGHBOUR: 'it returns false'. Refute it at one input. -/
def termsOfPowersWrong : ChangeSpec := { name := "termsOfPowers", fn := fun _ => fun
  | [d1, d2] => { results := [.lit (.bool false)], args := [d1, d2] }
  | _ => none }
def TermsOfPowersWrongFalsely : Prop := termsOfPowersRow.holds Try.pinned (OpenSpec.ofChange termsOfPowersWrong)

/- THE SECOND FORM. 'bulk': how many values and letters a reading holds, each counted each time it is reached (what is shared counts as often as it is met; a slice's spare places count too). A statement '..UptoSaid' is the law's where the arguments, and the package variables that the reading takes, are together of bulk at most 1048576: NARROWER than '..Said'. Prove '..Said' where nothing that the law and all that it calls make is longer than what came in: it says more and counts as full. Else prove '..UptoSaid'. A law counts once. -/
mutual
def uptoBulk {H : Type} : DataW H → Nat
  | .lit (.string bytes) => bytes.length + 1
  | .lit _ => 1
  | .nil => 1
  | .ptr d => uptoBulk d + 1
  | .slice elems spare => uptoBulkAll elems + uptoBulkAll spare + 1
  | .agg parts => uptoBulkAll parts + 1
  | .iface _ d => uptoBulk d + 1
  | .map entries => uptoBulkEntries entries + 1
  | .held _ => 1
def uptoBulkAll {H : Type} : List (DataW H) → Nat
  | [] => 0
  | d :: r => uptoBulk d + uptoBulkAll r
def uptoBulkEntries {H : Type} : List (Lit × DataW H) → Nat
  | [] => 0
  | x :: r => uptoBulkEntry x + uptoBulkEntries r
def uptoBulkEntry {H : Type} : Lit × DataW H → Nat
  | (.string bytes, d) => bytes.length + uptoBulk d + 1
  | (_, d) => uptoBulk d + 1
 end
def uptoSmall : (H : Type) → List (DataW H) → Bool := fun _ ds => decide (uptoBulkAll ds ≤ 1048576)
def OpenSpec.upto (s : _root_.Go.ChangeSpec) : _root_.Go.OpenSpec := { _root_.Go.OpenSpec.ofChange s with cond := some uptoSmall }

/-- 'robuststatslaw10.TermsExpand', WHERE WHAT IT READS IS OF BULK AT MOST 1048576: true; the input reads as it did. -/
def termsExpandUptoRow : OpenClaim := { program := "ytjooknpgcjicbaa", sum := "eaccaa81af41e279e69cce3ae4911009fbdc4eff69bc99adb665a270a077005e", func := "robuststats/robuststatslaw10.TermsExpand", spec := "termsExpand", unfollowed := true, recurses := true, apart := false, narrowed := true }
def TermsExpandUptoSaid : Prop := termsExpandUptoRow.holds Try.pinned (OpenSpec.upto termsExpandSpec)

/-- 'robuststatslaw10.TermsCheck', WHERE WHAT IT READS IS OF BULK AT MOST 1048576: true; the input reads as it did. -/
def termsCheckUptoRow : OpenClaim := { program := "ytjooknpgcjicbaa", sum := "eaccaa81af41e279e69cce3ae4911009fbdc4eff69bc99adb665a270a077005e", func := "robuststats/robuststatslaw10.TermsCheck", spec := "termsCheck", unfollowed := true, recurses := true, apart := false, narrowed := true }
def TermsCheckUptoSaid : Prop := termsCheckUptoRow.holds Try.pinned (OpenSpec.upto termsCheckSpec)

/-- 'robuststatslaw10.TermsAreValid', WHERE WHAT IT READS IS OF BULK AT MOST 1048576: true; the input reads as it did. -/
def termsAreValidUptoRow : OpenClaim := { program := "ytjooknpgcjicbaa", sum := "eaccaa81af41e279e69cce3ae4911009fbdc4eff69bc99adb665a270a077005e", func := "robuststats/robuststatslaw10.TermsAreValid", spec := "termsAreValid", unfollowed := true, recurses := true, apart := false, narrowed := true }
def TermsAreValidUptoSaid : Prop := termsAreValidUptoRow.holds Try.pinned (OpenSpec.upto termsAreValidSpec)

/-- 'robuststatslaw10.TermsFollowLaws', WHERE WHAT IT READS IS OF BULK AT MOST 1048576: true; the input reads as it did. -/
def termsFollowLawsUptoRow : OpenClaim := { program := "ytjooknpgcjicbaa", sum := "eaccaa81af41e279e69cce3ae4911009fbdc4eff69bc99adb665a270a077005e", func := "robuststats/robuststatslaw10.TermsFollowLaws", spec := "termsFollowLaws", unfollowed := true, recurses := true, apart := false, narrowed := true }
def TermsFollowLawsUptoSaid : Prop := termsFollowLawsUptoRow.holds Try.pinned (OpenSpec.upto termsFollowLawsSpec)

/-- 'robuststatslaw10.TermsRemove', WHERE WHAT IT READS IS OF BULK AT MOST 1048576: true; the input reads as it did. -/
def termsRemoveUptoRow : OpenClaim := { program := "ytjooknpgcjicbaa", sum := "eaccaa81af41e279e69cce3ae4911009fbdc4eff69bc99adb665a270a077005e", func := "robuststats/robuststatslaw10.TermsRemove", spec := "termsRemove", unfollowed := true, recurses := true, apart := false, narrowed := true }
def TermsRemoveUptoSaid : Prop := termsRemoveUptoRow.holds Try.pinned (OpenSpec.upto termsRemoveSpec)

/-- 'robuststatslaw10.TermsOfPowers', WHERE WHAT IT READS IS OF BULK AT MOST 1048576: true; the input reads as it did. -/
def termsOfPowersUptoRow : OpenClaim := { program := "ytjooknpgcjicbaa", sum := "eaccaa81af41e279e69cce3ae4911009fbdc4eff69bc99adb665a270a077005e", func := "robuststats/robuststatslaw10.TermsOfPowers", spec := "termsOfPowers", unfollowed := true, recurses := true, apart := false, narrowed := true }
def TermsOfPowersUptoSaid : Prop := termsOfPowersUptoRow.holds Try.pinned (OpenSpec.upto termsOfPowersSpec)

end Rows
end Go.Proofs.Ytjooknpgcjicbaa
