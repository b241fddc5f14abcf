/- What towerCoordinates_holds needs: texts Gf, put together. -/
import Derived.Test.YtlbddjojhcgpiaaKBC4
import Derived.Laws.BitsLemmas
import Derived.OrdersHeld
set_option linter.unusedVariables false
set_option linter.unusedSimpArgs false
set_option linter.unusedSectionVars false
set_option maxHeartbeats 8000000
set_option maxRecDepth 100000
-- Gf
section
namespace Go.Proofs.Ytlbddjojhcgpiaa.Hand
open Go.RowKit Go.Proofs.YtlbddjojhcgpiaaW.PrintWords
abbrev GFv := Cw.GFv
def GFok (w : World) (b : Nat) (G : GFv) : Prop := ∃ A2 c2 A4 c4 A5 c5,
 w.heap[b]? = some (.cells #[.int .i64 (G.F.p : Int), .int .i64 (G.F.m : Int), .slice A2 G.mod.length c2, .int .i64 (G.q : Int), .slice A4 G.exp.length c4, .slice A5 G.log.length c5] 90 (0, 0)) ∧
 Kd.C (Kd.int .i64) w A2 G.mod.length G.mod ∧ G.mod.length ≤ c2 ∧ Kd.C (Kd.int .i64) w A4 G.exp.length G.exp ∧ G.exp.length ≤ c4 ∧ Kd.C (Kd.int .i64) w A5 G.log.length G.log ∧ G.log.length ≤ c5
theorem GFok.below {w w1 : World} {b : Nat} {G : GFv} (h : GFok w b G) (hb : Below w.heap.size w w1) : GFok w1 b G := by
 obtain ⟨A2, c2, A4, c4, A5, c5, h4, h5, h6, h7, h8, h9, h10⟩ := h;exact ⟨A2, c2, A4, c4, A5, c5, kB h4 hb, Kd.cB h5 hb, h6, Kd.cB h7 hb, h8, Kd.cB h9 hb, h10⟩
theorem GFok.belowT {w w1 : World} {b : Nat} {G : GFv} (h : GFok w b G) (hb : Below w.heap.size w w1) : GFok w1 b G := h.below hb
theorem belowZ {w W W1 : World} (h : Below w.heap.size w W) (k : Below W.heap.size W W1) : Below w.heap.size w W1 := bP h k
def gfW (b : Nat) : Option GFv → Value
 | none => .pointer none
 | some _ => .pointer (some ⟨b, 0, none⟩)
theorem gfW_none (b : Nat) : gfW b none = .pointer none := rfl
theorem gfW_some (b : Nat) (G : GFv) : gfW b (some G) = .pointer (some ⟨b, 0, none⟩) := rfl
def gfOk (w : World) (b : Nat) : Option GFv → Prop
 | none => True
 | some G => GFok w b G
def optE {α β : Type} (o : Option β) (a : Option α) (f : β → Option α) : Option α := match o with
 | none => a
 | some q => f q
end Go.Proofs.Ytlbddjojhcgpiaa.Hand
end
