/-
  No cell of these rows narrows 'for every input' (looked for: loops, veiled, ifaces, maps, wideKeys, modest, calm, conditions, laid).
  DERIVED. THE GIVEN ROWS OF THIS SEAT. 7 by the template 'for every input the law returns true; each argument reads behind the call as it read before'; 0 by the template 'total and deterministic' (their statements: YtlbddjojhcgpiaaTotals.lean).
  GIVEN WITH THE SEED: the statements are not yours to turn. If you find one false, say at which input.
  Laid BY PROGRAM, IN A SANDBOX (cutbox-rows.mjs): the forced cells as the released guide's own fill.sh prints them over the translation 449517682e0d951e… (all of the seat's roots in one cut). By AI agents, Wed Nov 11 2026. No macro, syntax, notation, axiom, sorry.
-/
import Derived.Test.YtlbddjojhcgpiaaChecked
import GoSem.Claim
import GoSem.ClaimJoined
import GoSem.ClaimMapViews
import Derived.JoinedTies
import Derived.KernelRfl
namespace Go.Proofs.Ytlbddjojhcgpiaa
/- THE CELL 'sum', in the pinned program and in every row, IS THE sha256 OF THE DUMP (.gsa) THAT YtlbddjojhcgpiaaProg.lean LOADS. Nothing in Lean hashes anything: it is a label: what it is worth is what the hold of that sum in a sandbox is worth. -/
noncomputable def Try.pinned : Pinned := { name := "ytlbddjojhcgpiaa", sum := "449517682e0d951ea7f78b530703b1b9f3c1ac53d65ffef37bc8e91951d21dd6", checked := Try.checked }
namespace Rows
def none {H : Type} : Left H := { results := [], args := [] }

/-- 'codewrightlaw07.TowerDuals': WHATEVER THE INPUT: true; the input reads as it did. -/
def towerDualsSpec : ChangeSpec := { name := "towerDuals", fn := fun _ => fun
  | [d1, d2, d3] => { results := [.lit (.bool true)], args := [d1, d2, d3] }
  | _ => none }
def towerDualsRow : OpenClaim := { program := "ytlbddjojhcgpiaa", sum := "449517682e0d951ea7f78b530703b1b9f3c1ac53d65ffef37bc8e91951d21dd6", func := "codewright/codewrightlaw07.TowerDuals", spec := "towerDuals", unfollowed := true, recurses := true, apart := false }
def TowerDualsSaid : Prop := towerDualsRow.holds Try.pinned (OpenSpec.ofChange towerDualsSpec)

/-- ITS FALSE NEIGHBOUR: 'it returns false'. Refute it at one input. -/
def towerDualsWrong : ChangeSpec := { name := "towerDuals", fn := fun _ => fun
  | [d1, d2, d3] => { results := [.lit (.bool false)], args := [d1, d2, d3] }
  | _ => none }
def TowerDualsWrongFalsely : Prop := towerDualsRow.holds Try.pinned (OpenSpec.ofChange towerDualsWrong)

/-- 'codewrightlaw07.TowerNormals': WHATEVER THE INPUT: true; the input reads as it did. -/
def towerNormalsSpec : ChangeSpec := { name := "towerNormals", fn := fun _ => fun
  | [d1, d2] => { results := [.lit (.bool true)], args := [d1, d2] }
  | _ => none }
def towerNormalsRow : OpenClaim := { program := "ytlbddjojhcgpiaa", sum := "449517682e0d951ea7f78b530703b1b9f3c1ac53d65ffef37bc8e91951d21dd6", func := "codewright/codewrightlaw07.TowerNormals", spec := "towerNormals", unfollowed := true, recurses := true, apart := false }
def TowerNormalsSaid : Prop := towerNormalsRow.holds Try.pinned (OpenSpec.ofChange towerNormalsSpec)

/-- ITS FALSE NEIGHBOUR: 'it returns false'. Refute it at one input. -/
def towerNormalsWrong : ChangeSpec := { name := "towerNormals", fn := fun _ => fun
  | [d1, d2] => { results := [.lit (.bool false)], args := [d1, d2] }
  | _ => none }
def TowerNormalsWrongFalsely : Prop := towerNormalsRow.holds Try.pinned (OpenSpec.ofChange towerNormalsWrong)

/-- 'codewrightlaw07.TowerMinimal': WHATEVER THE INPUT: true; the input reads as it did. -/
def towerMinimalSpec : ChangeSpec := { name := "towerMinimal", fn := fun _ => fun
  | [d1, d2, d3] => { results := [.lit (.bool true)], args := [d1, d2, d3] }
  | _ => none }
def towerMinimalRow : OpenClaim := { program := "ytlbddjojhcgpiaa", sum := "449517682e0d951ea7f78b530703b1b9f3c1ac53d65ffef37bc8e91951d21dd6", func := "codewright/codewrightlaw07.TowerMinimal", spec := "towerMinimal", unfollowed := true, recurses := true, apart := false }
def TowerMinimalSaid : Prop := towerMinimalRow.holds Try.pinned (OpenSpec.ofChange towerMinimalSpec)

/-- ITS FALSE NEIGHBOUR: 'it returns false'. Refute it at one input. -/
def towerMinimalWrong : ChangeSpec := { name := "towerMinimal", fn := fun _ => fun
  | [d1, d2, d3] => { results := [.lit (.bool false)], args := [d1, d2, d3] }
  | _ => none }
def TowerMinimalWrongFalsely : Prop := towerMinimalRow.holds Try.pinned (OpenSpec.ofChange towerMinimalWrong)

/-- 'codewrightlaw07.TowerEmbeds': WHATEVER THE INPUT: true; the input reads as it did. -/
def towerEmbedsSpec : ChangeSpec := { name := "towerEmbeds", fn := fun _ => fun
  | [d1, d2] => { results := [.lit (.bool true)], args := [d1, d2] }
  | _ => none }
def towerEmbedsRow : OpenClaim := { program := "ytlbddjojhcgpiaa", sum := "449517682e0d951ea7f78b530703b1b9f3c1ac53d65ffef37bc8e91951d21dd6", func := "codewright/codewrightlaw07.TowerEmbeds", spec := "towerEmbeds", unfollowed := true, recurses := true, apart := false }
def TowerEmbedsSaid : Prop := towerEmbedsRow.holds Try.pinned (OpenSpec.ofChange towerEmbedsSpec)

/-- ITS FALSE NEIGHBOUR: 'it returns false'. Refute it at one input. -/
def towerEmbedsWrong : ChangeSpec := { name := "towerEmbeds", fn := fun _ => fun
  | [d1, d2] => { results := [.lit (.bool false)], args := [d1, d2] }
  | _ => none }
def TowerEmbedsWrongFalsely : Prop := towerEmbedsRow.holds Try.pinned (OpenSpec.ofChange towerEmbedsWrong)

/-- 'codewrightlaw07.TowerHomomorphisms': WHATEVER THE INPUT: true; the input reads as it did. -/
def towerHomomorphismsSpec : ChangeSpec := { name := "towerHomomorphisms", fn := fun _ => fun
  | [d1, d2, d3] => { results := [.lit (.bool true)], args := [d1, d2, d3] }
  | _ => none }
def towerHomomorphismsRow : OpenClaim := { program := "ytlbddjojhcgpiaa", sum := "449517682e0d951ea7f78b530703b1b9f3c1ac53d65ffef37bc8e91951d21dd6", func := "codewright/codewrightlaw07.TowerHomomorphisms", spec := "towerHomomorphisms", unfollowed := true, recurses := true, apart := false }
def TowerHomomorphismsSaid : Prop := towerHomomorphismsRow.holds Try.pinned (OpenSpec.ofChange towerHomomorphismsSpec)

/-- ITS FALSE NEIGHBOUR: 'it returns false'. Refute it at one input. -/
def towerHomomorphismsWrong : ChangeSpec := { name := "towerHomomorphisms", fn := fun _ => fun
  | [d1, d2, d3] => { results := [.lit (.bool false)], args := [d1, d2, d3] }
  | _ => none }
def TowerHomomorphismsWrongFalsely : Prop := towerHomomorphismsRow.holds Try.pinned (OpenSpec.ofChange towerHomomorphismsWrong)

/-- 'codewrightlaw07.TowerBases': WHATEVER THE INPUT: true; the input reads as it did. -/
def towerBasesSpec : ChangeSpec := { name := "towerBases", fn := fun _ => fun
  | [d1, d2, d3] => { results := [.lit (.bool true)], args := [d1, d2, d3] }
  | _ => none }
def towerBasesRow : OpenClaim := { program := "ytlbddjojhcgpiaa", sum := "449517682e0d951ea7f78b530703b1b9f3c1ac53d65ffef37bc8e91951d21dd6", func := "codewright/codewrightlaw07.TowerBases", spec := "towerBases", unfollowed := true, recurses := true, apart := false }
def TowerBasesSaid : Prop := towerBasesRow.holds Try.pinned (OpenSpec.ofChange towerBasesSpec)

/-- ITS FALSE NEIGHBOUR: 'it returns false'. Refute it at one input. -/
def towerBasesWrong : ChangeSpec := { name := "towerBases", fn := fun _ => fun
  | [d1, d2, d3] => { results := [.lit (.bool false)], args := [d1, d2, d3] }
  | _ => none }
def TowerBasesWrongFalsely : Prop := towerBasesRow.holds Try.pinned (OpenSpec.ofChange towerBasesWrong)

/-- 'codewrightlaw07.TowerCoordinates': WHATEVER THE INPUT: true; the input reads as it did. -/
def towerCoordinatesSpec : ChangeSpec := { name := "towerCoordinates", fn := fun _ => fun
  | [d1, d2, d3] => { results := [.lit (.bool true)], args := [d1, d2, d3] }
  | _ => none }
def towerCoordinatesRow : OpenClaim := { program := "ytlbddjojhcgpiaa", sum := "449517682e0d951ea7f78b530703b1b9f3c1ac53d65ffef37bc8e91951d21dd6", func := "codewright/codewrightlaw07.TowerCoordinates", spec := "towerCoordinates", unfollowed := true, recurses := true, apart := false }
def TowerCoordinatesSaid : Prop := towerCoordinatesRow.holds Try.pinned (OpenSpec.ofChange towerCoordinatesSpec)

/-- ITS FALSE NEIGHBOUR: 'it returns false'. Refute it at one input. -/
def towerCoordinatesWrong : ChangeSpec := { name := "towerCoordinates", fn := fun _ => fun
  | [d1, d2, d3] => { results := [.lit (.bool false)], args := [d1, d2, d3] }
  | _ => none }
def TowerCoordinatesWrongFalsely : Prop := towerCoordinatesRow.holds Try.pinned (OpenSpec.ofChange towerCoordinatesWrong)

/- THE SECOND FORM. 'bulk': how many values and letters a reading holds, each counted each time it is reached (what is shared counts as often as it is met; a slice's spare places count too). A statement '..UptoSaid' is the law's where the arguments, and the package variables that the reading takes, are together of bulk at most 1048576: NARROWER than '..Said'. Prove '..Said' where nothing that the law and all that it calls make is longer than what came in: it says more and counts as full. Else prove '..UptoSaid'. A law counts once. -/
mutual
def uptoBulk {H : Type} : DataW H → Nat
  | .lit (.string bytes) => bytes.length + 1
  | .lit _ => 1
  | .nil => 1
  | .ptr d => uptoBulk d + 1
  | .slice elems spare => uptoBulkAll elems + uptoBulkAll spare + 1
  | .agg parts => uptoBulkAll parts + 1
  | .iface _ d => uptoBulk d + 1
  | .map entries => uptoBulkEntries entries + 1
  | .held _ => 1
def uptoBulkAll {H : Type} : List (DataW H) → Nat
  | [] => 0
  | d :: r => uptoBulk d + uptoBulkAll r
def uptoBulkEntries {H : Type} : List (Lit × DataW H) → Nat
  | [] => 0
  | x :: r => uptoBulkEntry x + uptoBulkEntries r
def uptoBulkEntry {H : Type} : Lit × DataW H → Nat
  | (.string bytes, d) => bytes.length + uptoBulk d + 1
  | (_, d) => uptoBulk d + 1
 end
def uptoSmall : (H : Type) → List (DataW H) → Bool := fun _ ds => decide (uptoBulkAll ds ≤ 1048576)
def OpenSpec.upto (s : _root_.Go.ChangeSpec) : _root_.Go.OpenSpec := { _root_.Go.OpenSpec.ofChange s with cond := some uptoSmall }

/-- 'codewrightlaw07.TowerDuals', WHERE WHAT IT READS IS OF BULK AT MOST 1048576: true; the input reads as it did. -/
def towerDualsUptoRow : OpenClaim := { program := "ytlbddjojhcgpiaa", sum := "449517682e0d951ea7f78b530703b1b9f3c1ac53d65ffef37bc8e91951d21dd6", func := "codewright/codewrightlaw07.TowerDuals", spec := "towerDuals", unfollowed := true, recurses := true, apart := false, narrowed := true }
def TowerDualsUptoSaid : Prop := towerDualsUptoRow.holds Try.pinned (OpenSpec.upto towerDualsSpec)

/-- 'codewrightlaw07.TowerNormals', WHERE WHAT IT READS IS OF BULK AT MOST 1048576: true; the input reads as it did. -/
def towerNormalsUptoRow : OpenClaim := { program := "ytlbddjojhcgpiaa", sum := "449517682e0d951ea7f78b530703b1b9f3c1ac53d65ffef37bc8e91951d21dd6", func := "codewright/codewrightlaw07.TowerNormals", spec := "towerNormals", unfollowed := true, recurses := true, apart := false, narrowed := true }
def TowerNormalsUptoSaid : Prop := towerNormalsUptoRow.holds Try.pinned (OpenSpec.upto towerNormalsSpec)

/-- 'codewrightlaw07.TowerMinimal', WHERE WHAT IT READS IS OF BULK AT MOST 1048576: true; the input reads as it did. -/
def towerMinimalUptoRow : OpenClaim := { program := "ytlbddjojhcgpiaa", sum := "449517682e0d951ea7f78b530703b1b9f3c1ac53d65ffef37bc8e91951d21dd6", func := "codewright/codewrightlaw07.TowerMinimal", spec := "towerMinimal", unfollowed := true, recurses := true, apart := false, narrowed := true }
def TowerMinimalUptoSaid : Prop := towerMinimalUptoRow.holds Try.pinned (OpenSpec.upto towerMinimalSpec)

/-- 'codewrightlaw07.TowerEmbeds', WHERE WHAT IT READS IS OF BULK AT MOST 1048576: true; the input reads as it did. -/
def towerEmbedsUptoRow : OpenClaim := { program := "ytlbddjojhcgpiaa", sum := "449517682e0d951ea7f78b530703b1b9f3c1ac53d65ffef37bc8e91951d21dd6", func := "codewright/codewrightlaw07.TowerEmbeds", spec := "towerEmbeds", unfollowed := true, recurses := true, apart := false, narrowed := true }
def TowerEmbedsUptoSaid : Prop := towerEmbedsUptoRow.holds Try.pinned (OpenSpec.upto towerEmbedsSpec)

/-- 'codewrightlaw07.TowerHomomorphisms', WHERE WHAT IT READS IS OF BULK AT MOST 1048576: true; the input reads as it did. -/
def towerHomomorphismsUptoRow : OpenClaim := { program := "ytlbddjojhcgpiaa", sum := "449517682e0d951ea7f78b530703b1b9f3c1ac53d65ffef37bc8e91951d21dd6", func := "codewright/codewrightlaw07.TowerHomomorphisms", spec := "towerHomomorphisms", unfollowed := true, recurses := true, apart := false, narrowed := true }
def TowerHomomorphismsUptoSaid : Prop := towerHomomorphismsUptoRow.holds Try.pinned (OpenSpec.upto towerHomomorphismsSpec)

/-- 'codewrightlaw07.TowerBases', WHERE WHAT IT READS IS OF BULK AT MOST 1048576: true; the input reads as it did. -/
def towerBasesUptoRow : OpenClaim := { program := "ytlbddjojhcgpiaa", sum := "449517682e0d951ea7f78b530703b1b9f3c1ac53d65ffef37bc8e91951d21dd6", func := "codewright/codewrightlaw07.TowerBases", spec := "towerBases", unfollowed := true, recurses := true, apart := false, narrowed := true }
def TowerBasesUptoSaid : Prop := towerBasesUptoRow.holds Try.pinned (OpenSpec.upto towerBasesSpec)

/-- 'codewrightlaw07.TowerCoordinates', WHERE WHAT IT READS IS OF BULK AT MOST 1048576: true; the input reads as it did. -/
def towerCoordinatesUptoRow : OpenClaim := { program := "ytlbddjojhcgpiaa", sum := "449517682e0d951ea7f78b530703b1b9f3c1ac53d65ffef37bc8e91951d21dd6", func := "codewright/codewrightlaw07.TowerCoordinates", spec := "towerCoordinates", unfollowed := true, recurses := true, apart := false, narrowed := true }
def TowerCoordinatesUptoSaid : Prop := towerCoordinatesUptoRow.holds Try.pinned (OpenSpec.upto towerCoordinatesSpec)

end Rows
end Go.Proofs.Ytlbddjojhcgpiaa
