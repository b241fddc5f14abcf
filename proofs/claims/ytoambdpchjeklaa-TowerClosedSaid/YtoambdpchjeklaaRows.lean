/-
  No cell of these rows narrows 'for every input' (looked for: loops, veiled, ifaces, maps, wideKeys, modest, calm, conditions, laid).
  DERIVED. THE GIVEN ROWS OF THIS SEAT. 10 by the template 'for every input the law returns true; each argument reads behind the call as it read before'; 0 by the template 'total and deterministic' (their statements: YtoambdpchjeklaaTotals.lean).
  GIVEN WITH THE SEED: the statements are not yours to turn. If you find one false, say at which input.
  Laid BY PROGRAM, IN A SANDBOX (cutbox-rows.mjs): the forced cells as the released guide's own fill.sh prints them over the translation f72a24e5b26c78d2… (all of the seat's roots in one cut). By AI agents, Wed Nov 11 2026. No macro, syntax, notation, axiom, sorry.
-/
import Derived.Test.YtoambdpchjeklaaChecked
import GoSem.Claim
import GoSem.ClaimJoined
import GoSem.ClaimMapViews
import Derived.JoinedTies
import Derived.KernelRfl
namespace Go.Proofs.Ytoambdpchjeklaa
/- THE CELL 'sum', in the pinned program and in every row, IS THE sha256 OF THE DUMP (.gsa) THAT YtoambdpchjeklaaProg.lean LOADS. Nothing in Lean hashes anything: it is a label: what it is worth is what the hold of that sum in a sandbox is worth. -/
noncomputable def Try.pinned : Pinned := { name := "ytoambdpchjeklaa", sum := "f72a24e5b26c78d29ef0f4bfba5688016869c66e904a353e0d0474f7be38f8d6", checked := Try.checked }
namespace Rows
def none {H : Type} : Left H := { results := [], args := [] }

/-- 'codewrightlaw07.TowerFrobenius': WHATEVER THE INPUT: true; the input reads as it did. -/
def towerFrobeniusSpec : ChangeSpec := { name := "towerFrobenius", fn := fun _ => fun
  | [d1, d2, d3] => { results := [.lit (.bool true)], args := [d1, d2, d3] }
  | _ => none }
def towerFrobeniusRow : OpenClaim := { program := "ytoambdpchjeklaa", sum := "f72a24e5b26c78d29ef0f4bfba5688016869c66e904a353e0d0474f7be38f8d6", func := "codewright/codewrightlaw07.TowerFrobenius", spec := "towerFrobenius", unfollowed := true, recurses := true, apart := false }
def TowerFrobeniusSaid : Prop := towerFrobeniusRow.holds Try.pinned (OpenSpec.ofChange towerFrobeniusSpec)

/-- ITS FALSE NEIGHBOUR: 'it returns false'. Refute it at one input. -/
def towerFrobeniusWrong : ChangeSpec := { name := "towerFrobenius", fn := fun _ => fun
  | [d1, d2, d3] => { results := [.lit (.bool false)], args := [d1, d2, d3] }
  | _ => none }
def TowerFrobeniusWrongFalsely : Prop := towerFrobeniusRow.holds Try.pinned (OpenSpec.ofChange towerFrobeniusWrong)

/-- 'codewrightlaw07.TowerAutomorphisms': WHATEVER THE INPUT: true; the input reads as it did. -/
def towerAutomorphismsSpec : ChangeSpec := { name := "towerAutomorphisms", fn := fun _ => fun
  | [d1, d2, d3] => { results := [.lit (.bool true)], args := [d1, d2, d3] }
  | _ => none }
def towerAutomorphismsRow : OpenClaim := { program := "ytoambdpchjeklaa", sum := "f72a24e5b26c78d29ef0f4bfba5688016869c66e904a353e0d0474f7be38f8d6", func := "codewright/codewrightlaw07.TowerAutomorphisms", spec := "towerAutomorphisms", unfollowed := true, recurses := true, apart := false }
def TowerAutomorphismsSaid : Prop := towerAutomorphismsRow.holds Try.pinned (OpenSpec.ofChange towerAutomorphismsSpec)

/-- ITS FALSE NEIGHBOUR: 'it returns false'. Refute it at one input. -/
def towerAutomorphismsWrong : ChangeSpec := { name := "towerAutomorphisms", fn := fun _ => fun
  | [d1, d2, d3] => { results := [.lit (.bool false)], args := [d1, d2, d3] }
  | _ => none }
def TowerAutomorphismsWrongFalsely : Prop := towerAutomorphismsRow.holds Try.pinned (OpenSpec.ofChange towerAutomorphismsWrong)

/-- 'codewrightlaw07.TowerSubfields': WHATEVER THE INPUT: true; the input reads as it did. -/
def towerSubfieldsSpec : ChangeSpec := { name := "towerSubfields", fn := fun _ => fun
  | [d1, d2] => { results := [.lit (.bool true)], args := [d1, d2] }
  | _ => none }
def towerSubfieldsRow : OpenClaim := { program := "ytoambdpchjeklaa", sum := "f72a24e5b26c78d29ef0f4bfba5688016869c66e904a353e0d0474f7be38f8d6", func := "codewright/codewrightlaw07.TowerSubfields", spec := "towerSubfields", unfollowed := true, recurses := true, apart := false }
def TowerSubfieldsSaid : Prop := towerSubfieldsRow.holds Try.pinned (OpenSpec.ofChange towerSubfieldsSpec)

/-- ITS FALSE NEIGHBOUR: 'it returns false'. Refute it at one input. -/
def towerSubfieldsWrong : ChangeSpec := { name := "towerSubfields", fn := fun _ => fun
  | [d1, d2] => { results := [.lit (.bool false)], args := [d1, d2] }
  | _ => none }
def TowerSubfieldsWrongFalsely : Prop := towerSubfieldsRow.holds Try.pinned (OpenSpec.ofChange towerSubfieldsWrong)

/-- 'codewrightlaw07.TowerClosed': WHATEVER THE INPUT: true; the input reads as it did. -/
def towerClosedSpec : ChangeSpec := { name := "towerClosed", fn := fun _ => fun
  | [d1, d2, d3] => { results := [.lit (.bool true)], args := [d1, d2, d3] }
  | _ => none }
def towerClosedRow : OpenClaim := { program := "ytoambdpchjeklaa", sum := "f72a24e5b26c78d29ef0f4bfba5688016869c66e904a353e0d0474f7be38f8d6", func := "codewright/codewrightlaw07.TowerClosed", spec := "towerClosed", unfollowed := true, recurses := true, apart := false }
def TowerClosedSaid : Prop := towerClosedRow.holds Try.pinned (OpenSpec.ofChange towerClosedSpec)

/-- ITS FALSE NEIGHBOUR: 'it returns false'. Refute it at one input. -/
def towerClosedWrong : ChangeSpec := { name := "towerClosed", fn := fun _ => fun
  | [d1, d2, d3] => { results := [.lit (.bool false)], args := [d1, d2, d3] }
  | _ => none }
def TowerClosedWrongFalsely : Prop := towerClosedRow.holds Try.pinned (OpenSpec.ofChange towerClosedWrong)

/-- 'codewrightlaw07.TowerDegrees': WHATEVER THE INPUT: true; the input reads as it did. -/
def towerDegreesSpec : ChangeSpec := { name := "towerDegrees", fn := fun _ => fun
  | [d1, d2, d3] => { results := [.lit (.bool true)], args := [d1, d2, d3] }
  | _ => none }
def towerDegreesRow : OpenClaim := { program := "ytoambdpchjeklaa", sum := "f72a24e5b26c78d29ef0f4bfba5688016869c66e904a353e0d0474f7be38f8d6", func := "codewright/codewrightlaw07.TowerDegrees", spec := "towerDegrees", unfollowed := true, recurses := true, apart := false }
def TowerDegreesSaid : Prop := towerDegreesRow.holds Try.pinned (OpenSpec.ofChange towerDegreesSpec)

/-- ITS FALSE NEIGHBOUR: 'it returns false'. Refute it at one input. -/
def towerDegreesWrong : ChangeSpec := { name := "towerDegrees", fn := fun _ => fun
  | [d1, d2, d3] => { results := [.lit (.bool false)], args := [d1, d2, d3] }
  | _ => none }
def TowerDegreesWrongFalsely : Prop := towerDegreesRow.holds Try.pinned (OpenSpec.ofChange towerDegreesWrong)

/-- 'codewrightlaw07.TowerTraces': WHATEVER THE INPUT: true; the input reads as it did. -/
def towerTracesSpec : ChangeSpec := { name := "towerTraces", fn := fun _ => fun
  | [d1, d2, d3] => { results := [.lit (.bool true)], args := [d1, d2, d3] }
  | _ => none }
def towerTracesRow : OpenClaim := { program := "ytoambdpchjeklaa", sum := "f72a24e5b26c78d29ef0f4bfba5688016869c66e904a353e0d0474f7be38f8d6", func := "codewright/codewrightlaw07.TowerTraces", spec := "towerTraces", unfollowed := true, recurses := true, apart := false }
def TowerTracesSaid : Prop := towerTracesRow.holds Try.pinned (OpenSpec.ofChange towerTracesSpec)

/-- ITS FALSE NEIGHBOUR: 'it returns false'. Refute it at one input. -/
def towerTracesWrong : ChangeSpec := { name := "towerTraces", fn := fun _ => fun
  | [d1, d2, d3] => { results := [.lit (.bool false)], args := [d1, d2, d3] }
  | _ => none }
def TowerTracesWrongFalsely : Prop := towerTracesRow.holds Try.pinned (OpenSpec.ofChange towerTracesWrong)

/-- 'codewrightlaw07.TowerConjugates': WHATEVER THE INPUT: true; the input reads as it did. -/
def towerConjugatesSpec : ChangeSpec := { name := "towerConjugates", fn := fun _ => fun
  | [d1, d2, d3] => { results := [.lit (.bool true)], args := [d1, d2, d3] }
  | _ => none }
def towerConjugatesRow : OpenClaim := { program := "ytoambdpchjeklaa", sum := "f72a24e5b26c78d29ef0f4bfba5688016869c66e904a353e0d0474f7be38f8d6", func := "codewright/codewrightlaw07.TowerConjugates", spec := "towerConjugates", unfollowed := true, recurses := true, apart := false }
def TowerConjugatesSaid : Prop := towerConjugatesRow.holds Try.pinned (OpenSpec.ofChange towerConjugatesSpec)

/-- ITS FALSE NEIGHBOUR: 'it returns false'. Refute it at one input. -/
def towerConjugatesWrong : ChangeSpec := { name := "towerConjugates", fn := fun _ => fun
  | [d1, d2, d3] => { results := [.lit (.bool false)], args := [d1, d2, d3] }
  | _ => none }
def TowerConjugatesWrongFalsely : Prop := towerConjugatesRow.holds Try.pinned (OpenSpec.ofChange towerConjugatesWrong)

/-- 'codewrightlaw07.TowerNorms': WHATEVER THE INPUT: true; the input reads as it did. -/
def towerNormsSpec : ChangeSpec := { name := "towerNorms", fn := fun _ => fun
  | [d1, d2, d3] => { results := [.lit (.bool true)], args := [d1, d2, d3] }
  | _ => none }
def towerNormsRow : OpenClaim := { program := "ytoambdpchjeklaa", sum := "f72a24e5b26c78d29ef0f4bfba5688016869c66e904a353e0d0474f7be38f8d6", func := "codewright/codewrightlaw07.TowerNorms", spec := "towerNorms", unfollowed := true, recurses := true, apart := false }
def TowerNormsSaid : Prop := towerNormsRow.holds Try.pinned (OpenSpec.ofChange towerNormsSpec)

/-- ITS FALSE NEIGHBOUR: 'it returns false'. Refute it at one input. -/
def towerNormsWrong : ChangeSpec := { name := "towerNorms", fn := fun _ => fun
  | [d1, d2, d3] => { results := [.lit (.bool false)], args := [d1, d2, d3] }
  | _ => none }
def TowerNormsWrongFalsely : Prop := towerNormsRow.holds Try.pinned (OpenSpec.ofChange towerNormsWrong)

/-- 'codewrightlaw07.TowerTransitive': WHATEVER THE INPUT: true; the input reads as it did. -/
def towerTransitiveSpec : ChangeSpec := { name := "towerTransitive", fn := fun _ => fun
  | [d1, d2, d3] => { results := [.lit (.bool true)], args := [d1, d2, d3] }
  | _ => none }
def towerTransitiveRow : OpenClaim := { program := "ytoambdpchjeklaa", sum := "f72a24e5b26c78d29ef0f4bfba5688016869c66e904a353e0d0474f7be38f8d6", func := "codewright/codewrightlaw07.TowerTransitive", spec := "towerTransitive", unfollowed := true, recurses := true, apart := false }
def TowerTransitiveSaid : Prop := towerTransitiveRow.holds Try.pinned (OpenSpec.ofChange towerTransitiveSpec)

/-- ITS FALSE NEIGHBOUR: 'it returns false'. Refute it at one input. -/
def towerTransitiveWrong : ChangeSpec := { name := "towerTransitive", fn := fun _ => fun
  | [d1, d2, d3] => { results := [.lit (.bool false)], args := [d1, d2, d3] }
  | _ => none }
def TowerTransitiveWrongFalsely : Prop := towerTransitiveRow.holds Try.pinned (OpenSpec.ofChange towerTransitiveWrong)

/-- 'codewrightlaw07.TowerHilbert': WHATEVER THE INPUT: true; the input reads as it did. -/
def towerHilbertSpec : ChangeSpec := { name := "towerHilbert", fn := fun _ => fun
  | [d1, d2, d3] => { results := [.lit (.bool true)], args := [d1, d2, d3] }
  | _ => none }
def towerHilbertRow : OpenClaim := { program := "ytoambdpchjeklaa", sum := "f72a24e5b26c78d29ef0f4bfba5688016869c66e904a353e0d0474f7be38f8d6", func := "codewright/codewrightlaw07.TowerHilbert", spec := "towerHilbert", unfollowed := true, recurses := true, apart := false }
def TowerHilbertSaid : Prop := towerHilbertRow.holds Try.pinned (OpenSpec.ofChange towerHilbertSpec)

/-- ITS FALSE NEIGHBOUR: 'it returns false'. Refute it at one input. -/
def towerHilbertWrong : ChangeSpec := { name := "towerHilbert", fn := fun _ => fun
  | [d1, d2, d3] => { results := [.lit (.bool false)], args := [d1, d2, d3] }
  | _ => none }
def TowerHilbertWrongFalsely : Prop := towerHilbertRow.holds Try.pinned (OpenSpec.ofChange towerHilbertWrong)

/- THE SECOND FORM. 'bulk': how many values and letters a reading holds, each counted each time it is reached (what is shared counts as often as it is met; a slice's spare places count too). A statement '..UptoSaid' is the law's where the arguments, and the package variables that the reading takes, are together of bulk at most 1048576: NARROWER than '..Said'. Prove '..Said' where nothing that the law and all that it calls make is longer than what came in: it says more and counts as full. Else prove '..UptoSaid'. A law counts once. -/
mutual
def uptoBulk {H : Type} : DataW H → Nat
  | .lit (.string bytes) => bytes.length + 1
  | .lit _ => 1
  | .nil => 1
  | .ptr d => uptoBulk d + 1
  | .slice elems spare => uptoBulkAll elems + uptoBulkAll spare + 1
  | .agg parts => uptoBulkAll parts + 1
  | .iface _ d => uptoBulk d + 1
  | .map entries => uptoBulkEntries entries + 1
  | .held _ => 1
def uptoBulkAll {H : Type} : List (DataW H) → Nat
  | [] => 0
  | d :: r => uptoBulk d + uptoBulkAll r
def uptoBulkEntries {H : Type} : List (Lit × DataW H) → Nat
  | [] => 0
  | x :: r => uptoBulkEntry x + uptoBulkEntries r
def uptoBulkEntry {H : Type} : Lit × DataW H → Nat
  | (.string bytes, d) => bytes.length + uptoBulk d + 1
  | (_, d) => uptoBulk d + 1
 end
def uptoSmall : (H : Type) → List (DataW H) → Bool := fun _ ds => decide (uptoBulkAll ds ≤ 1048576)
def OpenSpec.upto (s : _root_.Go.ChangeSpec) : _root_.Go.OpenSpec := { _root_.Go.OpenSpec.ofChange s with cond := some uptoSmall }

/-- 'codewrightlaw07.TowerFrobenius', WHERE WHAT IT READS IS OF BULK AT MOST 1048576: true; the input reads as it did. -/
def towerFrobeniusUptoRow : OpenClaim := { program := "ytoambdpchjeklaa", sum := "f72a24e5b26c78d29ef0f4bfba5688016869c66e904a353e0d0474f7be38f8d6", func := "codewright/codewrightlaw07.TowerFrobenius", spec := "towerFrobenius", unfollowed := true, recurses := true, apart := false, narrowed := true }
def TowerFrobeniusUptoSaid : Prop := towerFrobeniusUptoRow.holds Try.pinned (OpenSpec.upto towerFrobeniusSpec)

/-- 'codewrightlaw07.TowerAutomorphisms', WHERE WHAT IT READS IS OF BULK AT MOST 1048576: true; the input reads as it did. -/
def towerAutomorphismsUptoRow : OpenClaim := { program := "ytoambdpchjeklaa", sum := "f72a24e5b26c78d29ef0f4bfba5688016869c66e904a353e0d0474f7be38f8d6", func := "codewright/codewrightlaw07.TowerAutomorphisms", spec := "towerAutomorphisms", unfollowed := true, recurses := true, apart := false, narrowed := true }
def TowerAutomorphismsUptoSaid : Prop := towerAutomorphismsUptoRow.holds Try.pinned (OpenSpec.upto towerAutomorphismsSpec)

/-- 'codewrightlaw07.TowerSubfields', WHERE WHAT IT READS IS OF BULK AT MOST 1048576: true; the input reads as it did. -/
def towerSubfieldsUptoRow : OpenClaim := { program := "ytoambdpchjeklaa", sum := "f72a24e5b26c78d29ef0f4bfba5688016869c66e904a353e0d0474f7be38f8d6", func := "codewright/codewrightlaw07.TowerSubfields", spec := "towerSubfields", unfollowed := true, recurses := true, apart := false, narrowed := true }
def TowerSubfieldsUptoSaid : Prop := towerSubfieldsUptoRow.holds Try.pinned (OpenSpec.upto towerSubfieldsSpec)

/-- 'codewrightlaw07.TowerClosed', WHERE WHAT IT READS IS OF BULK AT MOST 1048576: true; the input reads as it did. -/
def towerClosedUptoRow : OpenClaim := { program := "ytoambdpchjeklaa", sum := "f72a24e5b26c78d29ef0f4bfba5688016869c66e904a353e0d0474f7be38f8d6", func := "codewright/codewrightlaw07.TowerClosed", spec := "towerClosed", unfollowed := true, recurses := true, apart := false, narrowed := true }
def TowerClosedUptoSaid : Prop := towerClosedUptoRow.holds Try.pinned (OpenSpec.upto towerClosedSpec)

/-- 'codewrightlaw07.TowerDegrees', WHERE WHAT IT READS IS OF BULK AT MOST 1048576: true; the input reads as it did. -/
def towerDegreesUptoRow : OpenClaim := { program := "ytoambdpchjeklaa", sum := "f72a24e5b26c78d29ef0f4bfba5688016869c66e904a353e0d0474f7be38f8d6", func := "codewright/codewrightlaw07.TowerDegrees", spec := "towerDegrees", unfollowed := true, recurses := true, apart := false, narrowed := true }
def TowerDegreesUptoSaid : Prop := towerDegreesUptoRow.holds Try.pinned (OpenSpec.upto towerDegreesSpec)

/-- 'codewrightlaw07.TowerTraces', WHERE WHAT IT READS IS OF BULK AT MOST 1048576: true; the input reads as it did. -/
def towerTracesUptoRow : OpenClaim := { program := "ytoambdpchjeklaa", sum := "f72a24e5b26c78d29ef0f4bfba5688016869c66e904a353e0d0474f7be38f8d6", func := "codewright/codewrightlaw07.TowerTraces", spec := "towerTraces", unfollowed := true, recurses := true, apart := false, narrowed := true }
def TowerTracesUptoSaid : Prop := towerTracesUptoRow.holds Try.pinned (OpenSpec.upto towerTracesSpec)

/-- 'codewrightlaw07.TowerConjugates', WHERE WHAT IT READS IS OF BULK AT MOST 1048576: true; the input reads as it did. -/
def towerConjugatesUptoRow : OpenClaim := { program := "ytoambdpchjeklaa", sum := "f72a24e5b26c78d29ef0f4bfba5688016869c66e904a353e0d0474f7be38f8d6", func := "codewright/codewrightlaw07.TowerConjugates", spec := "towerConjugates", unfollowed := true, recurses := true, apart := false, narrowed := true }
def TowerConjugatesUptoSaid : Prop := towerConjugatesUptoRow.holds Try.pinned (OpenSpec.upto towerConjugatesSpec)

/-- 'codewrightlaw07.TowerNorms', WHERE WHAT IT READS IS OF BULK AT MOST 1048576: true; the input reads as it did. -/
def towerNormsUptoRow : OpenClaim := { program := "ytoambdpchjeklaa", sum := "f72a24e5b26c78d29ef0f4bfba5688016869c66e904a353e0d0474f7be38f8d6", func := "codewright/codewrightlaw07.TowerNorms", spec := "towerNorms", unfollowed := true, recurses := true, apart := false, narrowed := true }
def TowerNormsUptoSaid : Prop := towerNormsUptoRow.holds Try.pinned (OpenSpec.upto towerNormsSpec)

/-- 'codewrightlaw07.TowerTransitive', WHERE WHAT IT READS IS OF BULK AT MOST 1048576: true; the input reads as it did. -/
def towerTransitiveUptoRow : OpenClaim := { program := "ytoambdpchjeklaa", sum := "f72a24e5b26c78d29ef0f4bfba5688016869c66e904a353e0d0474f7be38f8d6", func := "codewright/codewrightlaw07.TowerTransitive", spec := "towerTransitive", unfollowed := true, recurses := true, apart := false, narrowed := true }
def TowerTransitiveUptoSaid : Prop := towerTransitiveUptoRow.holds Try.pinned (OpenSpec.upto towerTransitiveSpec)

/-- 'codewrightlaw07.TowerHilbert', WHERE WHAT IT READS IS OF BULK AT MOST 1048576: true; the input reads as it did. -/
def towerHilbertUptoRow : OpenClaim := { program := "ytoambdpchjeklaa", sum := "f72a24e5b26c78d29ef0f4bfba5688016869c66e904a353e0d0474f7be38f8d6", func := "codewright/codewrightlaw07.TowerHilbert", spec := "towerHilbert", unfollowed := true, recurses := true, apart := false, narrowed := true }
def TowerHilbertUptoSaid : Prop := towerHilbertUptoRow.holds Try.pinned (OpenSpec.upto towerHilbertSpec)

end Rows
end Go.Proofs.Ytoambdpchjeklaa
