/-
  No cell of these rows narrows 'for every input' (looked for: loops, veiled, ifaces, maps, wideKeys, modest, calm, conditions, laid).
  DERIVED. THE GIVEN ROWS OF THIS SEAT. 10 by the template 'for every input the law returns true; each argument reads behind the call as it read before'; 0 by the template 'total and deterministic' (their statements: YtbohbfggmnjpdaaTotals.lean).
  GIVEN WITH THE SEED: the statements are not yours to turn. If you find one false, say at which input.
  Laid BY PROGRAM, IN A SANDBOX (cutbox-rows.mjs): the forced cells as the released guide's own fill.sh prints them over the translation ce26c1c261d580f3… (all of the seat's roots in one cut). By AI agents, Wed Nov 11 2026. No macro, syntax, notation, axiom, sorry.
-/
import Derived.Test.YtbohbfggmnjpdaaChecked
import GoSem.Claim
import GoSem.ClaimJoined
import GoSem.ClaimMapViews
import Derived.JoinedTies
import Derived.KernelRfl
namespace Go.Proofs.Ytbohbfggmnjpdaa
/- THE CELL 'sum', in the pinned program and in every row, IS THE sha256 OF THE DUMP (.gsa) THAT YtbohbfggmnjpdaaProg.lean LOADS. Nothing in Lean hashes anything: it is a label: what it is worth is what the hold of that sum in a sandbox is worth. -/
noncomputable def Try.pinned : Pinned := { name := "ytbohbfggmnjpdaa", sum := "ce26c1c261d580f3c62c18ee568cad8fbb3dac82a427dacc456b932f4660b29a", checked := Try.checked }
namespace Rows
def none {H : Type} : Left H := { results := [], args := [] }

/-- 'codewrightlaw08.DlogAccepts': WHATEVER THE INPUT: true; the input reads as it did. -/
def dlogAcceptsSpec : ChangeSpec := { name := "dlogAccepts", fn := fun _ => fun
  | [d] => { results := [.lit (.bool true)], args := [d] }
  | _ => none }
def dlogAcceptsRow : OpenClaim := { program := "ytbohbfggmnjpdaa", sum := "ce26c1c261d580f3c62c18ee568cad8fbb3dac82a427dacc456b932f4660b29a", func := "codewright/codewrightlaw08.DlogAccepts", spec := "dlogAccepts", apart := false }
def DlogAcceptsSaid : Prop := dlogAcceptsRow.holds Try.pinned (OpenSpec.ofChange dlogAcceptsSpec)

/-- ITS FALSE NEIGHBOUR: 'it returns false'. Refute it at one input. -/
def dlogAcceptsWrong : ChangeSpec := { name := "dlogAccepts", fn := fun _ => fun
  | [d] => { results := [.lit (.bool false)], args := [d] }
  | _ => none }
def DlogAcceptsWrongFalsely : Prop := dlogAcceptsRow.holds Try.pinned (OpenSpec.ofChange dlogAcceptsWrong)

/-- 'codewrightlaw08.DlogSound': WHATEVER THE INPUT: true; the input reads as it did. -/
def dlogSoundSpec : ChangeSpec := { name := "dlogSound", fn := fun _ => fun
  | [d] => { results := [.lit (.bool true)], args := [d] }
  | _ => none }
def dlogSoundRow : OpenClaim := { program := "ytbohbfggmnjpdaa", sum := "ce26c1c261d580f3c62c18ee568cad8fbb3dac82a427dacc456b932f4660b29a", func := "codewright/codewrightlaw08.DlogSound", spec := "dlogSound", apart := false }
def DlogSoundSaid : Prop := dlogSoundRow.holds Try.pinned (OpenSpec.ofChange dlogSoundSpec)

/-- ITS FALSE NEIGHBOUR: 'it returns false'. Refute it at one input. -/
def dlogSoundWrong : ChangeSpec := { name := "dlogSound", fn := fun _ => fun
  | [d] => { results := [.lit (.bool false)], args := [d] }
  | _ => none }
def DlogSoundWrongFalsely : Prop := dlogSoundRow.holds Try.pinned (OpenSpec.ofChange dlogSoundWrong)

/-- 'codewrightlaw08.DlogPrimitive': WHATEVER THE INPUT: true; the input reads as it did. -/
def dlogPrimitiveSpec : ChangeSpec := { name := "dlogPrimitive", fn := fun _ => fun
  | [d1, d2] => { results := [.lit (.bool true)], args := [d1, d2] }
  | _ => none }
def dlogPrimitiveRow : OpenClaim := { program := "ytbohbfggmnjpdaa", sum := "ce26c1c261d580f3c62c18ee568cad8fbb3dac82a427dacc456b932f4660b29a", func := "codewright/codewrightlaw08.DlogPrimitive", spec := "dlogPrimitive", unfollowed := true, recurses := true, apart := false }
def DlogPrimitiveSaid : Prop := dlogPrimitiveRow.holds Try.pinned (OpenSpec.ofChange dlogPrimitiveSpec)

/-- ITS FALSE NEIGHBOUR: 'it returns false'. Refute it at one input. -/
def dlogPrimitiveWrong : ChangeSpec := { name := "dlogPrimitive", fn := fun _ => fun
  | [d1, d2] => { results := [.lit (.bool false)], args := [d1, d2] }
  | _ => none }
def DlogPrimitiveWrongFalsely : Prop := dlogPrimitiveRow.holds Try.pinned (OpenSpec.ofChange dlogPrimitiveWrong)

/-- 'codewrightlaw08.DlogOrders': WHATEVER THE INPUT: true; the input reads as it did. -/
def dlogOrdersSpec : ChangeSpec := { name := "dlogOrders", fn := fun _ => fun
  | [d1, d2] => { results := [.lit (.bool true)], args := [d1, d2] }
  | _ => none }
def dlogOrdersRow : OpenClaim := { program := "ytbohbfggmnjpdaa", sum := "ce26c1c261d580f3c62c18ee568cad8fbb3dac82a427dacc456b932f4660b29a", func := "codewright/codewrightlaw08.DlogOrders", spec := "dlogOrders", apart := false }
def DlogOrdersSaid : Prop := dlogOrdersRow.holds Try.pinned (OpenSpec.ofChange dlogOrdersSpec)

/-- ITS FALSE NEIGHBOUR: 'it returns false'. Refute it at one input. -/
def dlogOrdersWrong : ChangeSpec := { name := "dlogOrders", fn := fun _ => fun
  | [d1, d2] => { results := [.lit (.bool false)], args := [d1, d2] }
  | _ => none }
def DlogOrdersWrongFalsely : Prop := dlogOrdersRow.holds Try.pinned (OpenSpec.ofChange dlogOrdersWrong)

/-- 'codewrightlaw08.DlogSolves': WHATEVER THE INPUT: true; the input reads as it did. -/
def dlogSolvesSpec : ChangeSpec := { name := "dlogSolves", fn := fun _ => fun
  | [d1, d2, d3] => { results := [.lit (.bool true)], args := [d1, d2, d3] }
  | _ => none }
def dlogSolvesRow : OpenClaim := { program := "ytbohbfggmnjpdaa", sum := "ce26c1c261d580f3c62c18ee568cad8fbb3dac82a427dacc456b932f4660b29a", func := "codewright/codewrightlaw08.DlogSolves", spec := "dlogSolves", apart := false }
def DlogSolvesSaid : Prop := dlogSolvesRow.holds Try.pinned (OpenSpec.ofChange dlogSolvesSpec)

/-- ITS FALSE NEIGHBOUR: 'it returns false'. Refute it at one input. -/
def dlogSolvesWrong : ChangeSpec := { name := "dlogSolves", fn := fun _ => fun
  | [d1, d2, d3] => { results := [.lit (.bool false)], args := [d1, d2, d3] }
  | _ => none }
def DlogSolvesWrongFalsely : Prop := dlogSolvesRow.holds Try.pinned (OpenSpec.ofChange dlogSolvesWrong)

/-- 'codewrightlaw08.DlogPowers': WHATEVER THE INPUT: true; the input reads as it did. -/
def dlogPowersSpec : ChangeSpec := { name := "dlogPowers", fn := fun _ => fun
  | [d1, d2, d3] => { results := [.lit (.bool true)], args := [d1, d2, d3] }
  | _ => none }
def dlogPowersRow : OpenClaim := { program := "ytbohbfggmnjpdaa", sum := "ce26c1c261d580f3c62c18ee568cad8fbb3dac82a427dacc456b932f4660b29a", func := "codewright/codewrightlaw08.DlogPowers", spec := "dlogPowers", apart := false }
def DlogPowersSaid : Prop := dlogPowersRow.holds Try.pinned (OpenSpec.ofChange dlogPowersSpec)

/-- ITS FALSE NEIGHBOUR: 'it returns false'. Refute it at one input. -/
def dlogPowersWrong : ChangeSpec := { name := "dlogPowers", fn := fun _ => fun
  | [d1, d2, d3] => { results := [.lit (.bool false)], args := [d1, d2, d3] }
  | _ => none }
def DlogPowersWrongFalsely : Prop := dlogPowersRow.holds Try.pinned (OpenSpec.ofChange dlogPowersWrong)

/-- 'codewrightlaw08.DlogTables': WHATEVER THE INPUT: true; the input reads as it did. -/
def dlogTablesSpec : ChangeSpec := { name := "dlogTables", fn := fun _ => fun
  | [d] => { results := [.lit (.bool true)], args := [d] }
  | _ => none }
def dlogTablesRow : OpenClaim := { program := "ytbohbfggmnjpdaa", sum := "ce26c1c261d580f3c62c18ee568cad8fbb3dac82a427dacc456b932f4660b29a", func := "codewright/codewrightlaw08.DlogTables", spec := "dlogTables", apart := false }
def DlogTablesSaid : Prop := dlogTablesRow.holds Try.pinned (OpenSpec.ofChange dlogTablesSpec)

/-- ITS FALSE NEIGHBOUR: 'it returns false'. Refute it at one input. -/
def dlogTablesWrong : ChangeSpec := { name := "dlogTables", fn := fun _ => fun
  | [d] => { results := [.lit (.bool false)], args := [d] }
  | _ => none }
def DlogTablesWrongFalsely : Prop := dlogTablesRow.holds Try.pinned (OpenSpec.ofChange dlogTablesWrong)

/-- 'codewrightlaw08.DlogProducts': WHATEVER THE INPUT: true; the input reads as it did. -/
def dlogProductsSpec : ChangeSpec := { name := "dlogProducts", fn := fun _ => fun
  | [d] => { results := [.lit (.bool true)], args := [d] }
  | _ => none }
def dlogProductsRow : OpenClaim := { program := "ytbohbfggmnjpdaa", sum := "ce26c1c261d580f3c62c18ee568cad8fbb3dac82a427dacc456b932f4660b29a", func := "codewright/codewrightlaw08.DlogProducts", spec := "dlogProducts", apart := false }
def DlogProductsSaid : Prop := dlogProductsRow.holds Try.pinned (OpenSpec.ofChange dlogProductsSpec)

/-- ITS FALSE NEIGHBOUR: 'it returns false'. Refute it at one input. -/
def dlogProductsWrong : ChangeSpec := { name := "dlogProducts", fn := fun _ => fun
  | [d] => { results := [.lit (.bool false)], args := [d] }
  | _ => none }
def DlogProductsWrongFalsely : Prop := dlogProductsRow.holds Try.pinned (OpenSpec.ofChange dlogProductsWrong)

/-- 'codewrightlaw08.DlogReaches': WHATEVER THE INPUT: true; the input reads as it did. -/
def dlogReachesSpec : ChangeSpec := { name := "dlogReaches", fn := fun _ => fun
  | [d1, d2] => { results := [.lit (.bool true)], args := [d1, d2] }
  | _ => none }
def dlogReachesRow : OpenClaim := { program := "ytbohbfggmnjpdaa", sum := "ce26c1c261d580f3c62c18ee568cad8fbb3dac82a427dacc456b932f4660b29a", func := "codewright/codewrightlaw08.DlogReaches", spec := "dlogReaches", unfollowed := true, recurses := true, apart := false }
def DlogReachesSaid : Prop := dlogReachesRow.holds Try.pinned (OpenSpec.ofChange dlogReachesSpec)

/-- ITS FALSE NEIGHBOUR: 'it returns false'. Refute it at one input. -/
def dlogReachesWrong : ChangeSpec := { name := "dlogReaches", fn := fun _ => fun
  | [d1, d2] => { results := [.lit (.bool false)], args := [d1, d2] }
  | _ => none }
def DlogReachesWrongFalsely : Prop := dlogReachesRow.holds Try.pinned (OpenSpec.ofChange dlogReachesWrong)

/-- 'codewrightlaw08.DlogZech': WHATEVER THE INPUT: true; the input reads as it did. -/
def dlogZechSpec : ChangeSpec := { name := "dlogZech", fn := fun _ => fun
  | [d] => { results := [.lit (.bool true)], args := [d] }
  | _ => none }
def dlogZechRow : OpenClaim := { program := "ytbohbfggmnjpdaa", sum := "ce26c1c261d580f3c62c18ee568cad8fbb3dac82a427dacc456b932f4660b29a", func := "codewright/codewrightlaw08.DlogZech", spec := "dlogZech", apart := false }
def DlogZechSaid : Prop := dlogZechRow.holds Try.pinned (OpenSpec.ofChange dlogZechSpec)

/-- ITS FALSE NEIGHBOUR: 'it returns false'. Refute it at one input. -/
def dlogZechWrong : ChangeSpec := { name := "dlogZech", fn := fun _ => fun
  | [d] => { results := [.lit (.bool false)], args := [d] }
  | _ => none }
def DlogZechWrongFalsely : Prop := dlogZechRow.holds Try.pinned (OpenSpec.ofChange dlogZechWrong)

/- THE SECOND FORM. 'bulk': how many values and letters a reading holds, each counted each time it is reached (what is shared counts as often as it is met; a slice's spare places count too). A statement '..UptoSaid' is the law's where the arguments, and the package variables that the reading takes, are together of bulk at most 1048576: NARROWER than '..Said'. Prove '..Said' where nothing that the law and all that it calls make is longer than what came in: it says more and counts as full. Else prove '..UptoSaid'. A law counts once. -/
mutual
def uptoBulk {H : Type} : DataW H → Nat
  | .lit (.string bytes) => bytes.length + 1
  | .lit _ => 1
  | .nil => 1
  | .ptr d => uptoBulk d + 1
  | .slice elems spare => uptoBulkAll elems + uptoBulkAll spare + 1
  | .agg parts => uptoBulkAll parts + 1
  | .iface _ d => uptoBulk d + 1
  | .map entries => uptoBulkEntries entries + 1
  | .held _ => 1
def uptoBulkAll {H : Type} : List (DataW H) → Nat
  | [] => 0
  | d :: r => uptoBulk d + uptoBulkAll r
def uptoBulkEntries {H : Type} : List (Lit × DataW H) → Nat
  | [] => 0
  | x :: r => uptoBulkEntry x + uptoBulkEntries r
def uptoBulkEntry {H : Type} : Lit × DataW H → Nat
  | (.string bytes, d) => bytes.length + uptoBulk d + 1
  | (_, d) => uptoBulk d + 1
 end
def uptoSmall : (H : Type) → List (DataW H) → Bool := fun _ ds => decide (uptoBulkAll ds ≤ 1048576)
def OpenSpec.upto (s : _root_.Go.ChangeSpec) : _root_.Go.OpenSpec := { _root_.Go.OpenSpec.ofChange s with cond := some uptoSmall }

/-- 'codewrightlaw08.DlogAccepts', WHERE WHAT IT READS IS OF BULK AT MOST 1048576: true; the input reads as it did. -/
def dlogAcceptsUptoRow : OpenClaim := { program := "ytbohbfggmnjpdaa", sum := "ce26c1c261d580f3c62c18ee568cad8fbb3dac82a427dacc456b932f4660b29a", func := "codewright/codewrightlaw08.DlogAccepts", spec := "dlogAccepts", apart := false, narrowed := true }
def DlogAcceptsUptoSaid : Prop := dlogAcceptsUptoRow.holds Try.pinned (OpenSpec.upto dlogAcceptsSpec)

/-- 'codewrightlaw08.DlogSound', WHERE WHAT IT READS IS OF BULK AT MOST 1048576: true; the input reads as it did. -/
def dlogSoundUptoRow : OpenClaim := { program := "ytbohbfggmnjpdaa", sum := "ce26c1c261d580f3c62c18ee568cad8fbb3dac82a427dacc456b932f4660b29a", func := "codewright/codewrightlaw08.DlogSound", spec := "dlogSound", apart := false, narrowed := true }
def DlogSoundUptoSaid : Prop := dlogSoundUptoRow.holds Try.pinned (OpenSpec.upto dlogSoundSpec)

/-- 'codewrightlaw08.DlogPrimitive', WHERE WHAT IT READS IS OF BULK AT MOST 1048576: true; the input reads as it did. -/
def dlogPrimitiveUptoRow : OpenClaim := { program := "ytbohbfggmnjpdaa", sum := "ce26c1c261d580f3c62c18ee568cad8fbb3dac82a427dacc456b932f4660b29a", func := "codewright/codewrightlaw08.DlogPrimitive", spec := "dlogPrimitive", unfollowed := true, recurses := true, apart := false, narrowed := true }
def DlogPrimitiveUptoSaid : Prop := dlogPrimitiveUptoRow.holds Try.pinned (OpenSpec.upto dlogPrimitiveSpec)

/-- 'codewrightlaw08.DlogOrders', WHERE WHAT IT READS IS OF BULK AT MOST 1048576: true; the input reads as it did. -/
def dlogOrdersUptoRow : OpenClaim := { program := "ytbohbfggmnjpdaa", sum := "ce26c1c261d580f3c62c18ee568cad8fbb3dac82a427dacc456b932f4660b29a", func := "codewright/codewrightlaw08.DlogOrders", spec := "dlogOrders", apart := false, narrowed := true }
def DlogOrdersUptoSaid : Prop := dlogOrdersUptoRow.holds Try.pinned (OpenSpec.upto dlogOrdersSpec)

/-- 'codewrightlaw08.DlogSolves', WHERE WHAT IT READS IS OF BULK AT MOST 1048576: true; the input reads as it did. -/
def dlogSolvesUptoRow : OpenClaim := { program := "ytbohbfggmnjpdaa", sum := "ce26c1c261d580f3c62c18ee568cad8fbb3dac82a427dacc456b932f4660b29a", func := "codewright/codewrightlaw08.DlogSolves", spec := "dlogSolves", apart := false, narrowed := true }
def DlogSolvesUptoSaid : Prop := dlogSolvesUptoRow.holds Try.pinned (OpenSpec.upto dlogSolvesSpec)

/-- 'codewrightlaw08.DlogPowers', WHERE WHAT IT READS IS OF BULK AT MOST 1048576: true; the input reads as it did. -/
def dlogPowersUptoRow : OpenClaim := { program := "ytbohbfggmnjpdaa", sum := "ce26c1c261d580f3c62c18ee568cad8fbb3dac82a427dacc456b932f4660b29a", func := "codewright/codewrightlaw08.DlogPowers", spec := "dlogPowers", apart := false, narrowed := true }
def DlogPowersUptoSaid : Prop := dlogPowersUptoRow.holds Try.pinned (OpenSpec.upto dlogPowersSpec)

/-- 'codewrightlaw08.DlogTables', WHERE WHAT IT READS IS OF BULK AT MOST 1048576: true; the input reads as it did. -/
def dlogTablesUptoRow : OpenClaim := { program := "ytbohbfggmnjpdaa", sum := "ce26c1c261d580f3c62c18ee568cad8fbb3dac82a427dacc456b932f4660b29a", func := "codewright/codewrightlaw08.DlogTables", spec := "dlogTables", apart := false, narrowed := true }
def DlogTablesUptoSaid : Prop := dlogTablesUptoRow.holds Try.pinned (OpenSpec.upto dlogTablesSpec)

/-- 'codewrightlaw08.DlogProducts', WHERE WHAT IT READS IS OF BULK AT MOST 1048576: true; the input reads as it did. -/
def dlogProductsUptoRow : OpenClaim := { program := "ytbohbfggmnjpdaa", sum := "ce26c1c261d580f3c62c18ee568cad8fbb3dac82a427dacc456b932f4660b29a", func := "codewright/codewrightlaw08.DlogProducts", spec := "dlogProducts", apart := false, narrowed := true }
def DlogProductsUptoSaid : Prop := dlogProductsUptoRow.holds Try.pinned (OpenSpec.upto dlogProductsSpec)

/-- 'codewrightlaw08.DlogReaches', WHERE WHAT IT READS IS OF BULK AT MOST 1048576: true; the input reads as it did. -/
def dlogReachesUptoRow : OpenClaim := { program := "ytbohbfggmnjpdaa", sum := "ce26c1c261d580f3c62c18ee568cad8fbb3dac82a427dacc456b932f4660b29a", func := "codewright/codewrightlaw08.DlogReaches", spec := "dlogReaches", unfollowed := true, recurses := true, apart := false, narrowed := true }
def DlogReachesUptoSaid : Prop := dlogReachesUptoRow.holds Try.pinned (OpenSpec.upto dlogReachesSpec)

/-- 'codewrightlaw08.DlogZech', WHERE WHAT IT READS IS OF BULK AT MOST 1048576: true; the input reads as it did. -/
def dlogZechUptoRow : OpenClaim := { program := "ytbohbfggmnjpdaa", sum := "ce26c1c261d580f3c62c18ee568cad8fbb3dac82a427dacc456b932f4660b29a", func := "codewright/codewrightlaw08.DlogZech", spec := "dlogZech", apart := false, narrowed := true }
def DlogZechUptoSaid : Prop := dlogZechUptoRow.holds Try.pinned (OpenSpec.upto dlogZechSpec)

end Rows
end Go.Proofs.Ytbohbfggmnjpdaa
