/- What dlogZech_holds needs: texts Q4, put together. -/
import Derived.Test.YtbohbfggmnjpdaaKLZ13
import Derived.LoopIn
import Derived.LoopNIn
import Derived.OwnWalkIn
import Derived.RangeFuncBound
import Derived.RangeFuncBox
import Derived.RangeFuncCalls
import Derived.RangeFuncLeaves
import Derived.RangeFuncNested
import Derived.Shelf.Abstract
import Derived.TacticsInMore
set_option linter.unusedVariables false
set_option linter.unusedSimpArgs false
-- Q4
section
namespace Go.Proofs.Ytbohbfggmnjpdaa.Pl
open Go.RowKit Go.Proofs.Ytbohbfggmnjpdaa.P Go.Proofs.Ytbohbfggmnjpdaa.Hand Go.Proofs.YtbohbfggmnjpdaaW.PrintWords
variable {G : GFv} {P M : Int} {mod : List Int}
open Classical in
noncomputable def prB (G : GFv) (x : Int) : Bool := decide (Cw.IsOrd (G.el x) (G.q - 1))
open Classical in
theorem is_isPrimitive (h : Is G P M mod) (x : Int) : Ev (fun k => r8IsPrimitive.f k P M mod x) (prB G x) := by
 have hq := G.q_le
 have hq2 := G.q_ge
 have hk : wrap64 ((G.q : Int) - 1) = ((G.q - 1 : Nat) : Int) := by rw [w64 (by omega) (by omega)]; omega
 unfold prB
 by_cases hx : G.el x = 0
 ·refine Ev.bind (is_mulOrder_zero h x hx) (Ev.bind (is_order04 h) ?_)
  refine Ev.congr (fun k => ?_) (Ev.now _)
  congr 1
  rw [decide_eq_false (fun h => h.ne hx), hk]
  exact beq_eq_false_iff_ne.2 (by omega)
 ·obtain ⟨o, ho⟩ := Cw.ord_ex hx
  refine Ev.bind (is_mulOrder h x ho) (Ev.bind (is_order04 h) ?_)
  refine Ev.congr (fun k => ?_) (Ev.now _)
  congr 1
  rw [hk]
  by_cases hh : o = G.q - 1
  ·rw [decide_eq_true (hh ▸ ho)]
   exact beq_iff_eq.2 (by omega)
  ·rw [decide_eq_false (fun h' => hh (ho.unique h'))]
   exact beq_eq_false_iff_ne.2 (by omega)
end Go.Proofs.Ytbohbfggmnjpdaa.Pl
end
