/- What dlogZech_holds needs: texts Gf, Tbd, put together. -/
import Derived.Test.YtbohbfggmnjpdaaKLZ4
import Derived.Laws.BitsLemmas
import Derived.OrdersHeld
set_option linter.unusedVariables false
set_option linter.unusedSimpArgs false
-- Gf
section
namespace Go.Proofs.Ytbohbfggmnjpdaa.Hand
open Go.RowKit Go.Proofs.YtbohbfggmnjpdaaW.PrintWords
abbrev GFv := Cw.GFv
def GFok (w : World) (b : Nat) (G : GFv) : Prop := ∃ A2 c2 A4 c4 A5 c5,
 w.heap[b]? = some (.cells #[.int .i64 (G.F.p : Int), .int .i64 (G.F.m : Int), .slice A2 G.mod.length c2, .int .i64 (G.q : Int), .slice A4 G.exp.length c4, .slice A5 G.log.length c5] 68 (0, 0)) ∧
 Kd.C (Kd.int .i64) w A2 G.mod.length G.mod ∧ G.mod.length ≤ c2 ∧ Kd.C (Kd.int .i64) w A4 G.exp.length G.exp ∧ G.exp.length ≤ c4 ∧ Kd.C (Kd.int .i64) w A5 G.log.length G.log ∧ G.log.length ≤ c5
theorem GFok.below {w w1 : World} {b : Nat} {G : GFv} (h : GFok w b G) (hb : Below w.heap.size w w1) : GFok w1 b G := by
 obtain ⟨A2, c2, A4, c4, A5, c5, h4, h5, h6, h7, h8, h9, h10⟩ := h
 exact ⟨A2, c2, A4, c4, A5, c5, kB h4 hb, Kd.C_below h5 hb, h6, Kd.C_below h7 hb, h8, Kd.C_below h9 hb, h10⟩
theorem GFok.belowT {w w1 : World} {b : Nat} {G : GFv} (h : GFok w b G) (hb : Below w.heap.size w w1) : GFok w1 b G := h.below hb
theorem belowZ {w W W1 : World} (h : Below w.heap.size w W) (k : Below W.heap.size W W1) : Below w.heap.size w W1 := bP h k
def gfW (b : Nat) : Option GFv → Value
 | none => .pointer none
 | some _ => .pointer (some ⟨b, 0, none⟩)
theorem gfW_none (b : Nat) : gfW b none = .pointer none := rfl
theorem gfW_some (b : Nat) (G : GFv) : gfW b (some G) = .pointer (some ⟨b, 0, none⟩) := rfl
def gfOk (w : World) (b : Nat) : Option GFv → Prop
 | none => True
 | some G => GFok w b G
def optE {α β : Type} (o : Option β) (a : Option α) (f : β → Option α) : Option α := match o with
 | none => a
 | some q => f q
end Go.Proofs.Ytbohbfggmnjpdaa.Hand
end
-- Tbd
section
namespace Go.Proofs.Ytbohbfggmnjpdaa.Hand
open Go.RowKit Go.Proofs.YtbohbfggmnjpdaaW.PrintWords
structure TBv where
 G : GFv
 base : Cw.El G.F
 prim : Cw.IsOrd base (Cw.qq (Cw.El G.F) - 1)
def TBv.H (T : TBv) : GFv := { T.G with gen := T.base, prim := T.prim }
def TBok (w : World) (b : Nat) (T : TBv) : Prop := ∃ bg A2 c2 A3 c3,
 w.heap[b]? = some (.cells #[.pointer (some ⟨bg, 0, none⟩), .int .i64 (T.G.num T.base), .slice A2 T.H.exp.length c2, .slice A3 T.H.log.length c3] 78 (0, 0)) ∧
 GFok w bg T.G ∧ Kd.C (Kd.int .i64) w A2 T.H.exp.length T.H.exp ∧ T.H.exp.length ≤ c2 ∧ Kd.C (Kd.int .i64) w A3 T.H.log.length T.H.log ∧ T.H.log.length ≤ c3
theorem TBok.below {w w1 : World} {b : Nat} {T : TBv} (h : TBok w b T) (hb : Below w.heap.size w w1) : TBok w1 b T := by
 obtain ⟨bg, A2, c2, A3, c3, h1, h2, h3, h4, h5, h6⟩ := h
 exact ⟨bg, A2, c2, A3, c3, kB h1 hb, h2.below hb, Kd.C_below h3 hb, h4, Kd.C_below h5 hb, h6⟩
theorem TBok.belowT {w w1 : World} {b : Nat} {T : TBv} (h : TBok w b T) (hb : Below w.heap.size w w1) : TBok w1 b T := h.below hb
def tbW (b : Nat) : Option TBv → Value
 | none => .pointer none
 | some _ => .pointer (some ⟨b, 0, none⟩)
theorem tbW_none (b : Nat) : tbW b none = .pointer none := rfl
theorem tbW_some (b : Nat) (T : TBv) : tbW b (some T) = .pointer (some ⟨b, 0, none⟩) := rfl
def tbOk (w : World) (b : Nat) : Option TBv → Prop
 | none => True
 | some T => TBok w b T
end Go.Proofs.Ytbohbfggmnjpdaa.Hand
end
