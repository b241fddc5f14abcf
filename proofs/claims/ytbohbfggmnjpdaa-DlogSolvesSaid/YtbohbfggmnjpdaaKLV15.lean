/- What dlogSolves_holds needs: texts PureLV, put together. -/
import Derived.Test.YtbohbfggmnjpdaaKLV14
import Derived.LoopIn
import Derived.LoopNIn
import Derived.OwnWalkIn
import Derived.RangeFuncBound
import Derived.RangeFuncBox
import Derived.RangeFuncCalls
import Derived.RangeFuncLeaves
import Derived.RangeFuncNested
import Derived.Shelf.Abstract
import Derived.TacticsInMore
set_option linter.unusedVariables false
set_option linter.unusedSimpArgs false
-- PureLV
section
namespace Go.Proofs.Ytbohbfggmnjpdaa
open Go.RowKit Go.Proofs.Ytbohbfggmnjpdaa.P Go.Proofs.Ytbohbfggmnjpdaa.Hand Go.Proofs.YtbohbfggmnjpdaaW.PrintWords Pl
theorem Pl.solve_zero_base (G : GFv) (x : Int) : dlog_Solve.f G 0 x = some (0, 7) := by
 classical
 rw [solve_f]
 unfold solveR
 rw [if_pos (Or.inl G.el_zero)]
theorem Pure.DlogSolves (P M : Int) (l : List Int) (B X : Int) (wP : (Lit.int .i64 P).wf = true) (wM : (Lit.int .i64 M).wf = true) (hl : l.length ≤ maxLen) (wl : ∀ x ∈ l, (Lit.int .i64 x).wf = true) (wB : (Lit.int .i64 B).wf = true) (wX : (Lit.int .i64 X).wf = true) :
  ∃ k, l8DlogSolves.f k P M l B X = some true := by
 classical
 refine Ev.rounds (g := fun k => l8DlogSolves.f k P M l B X) ?_
 rcases open_cases P M l (wf_lt wP) with ho | ⟨G, hG, ho⟩
 ·refine Ev.bind (Ev.congr (fun _ => ho) (Ev.now _)) ?_
  dsimp only [optE]
  exact Ev.congr (fun k => if_pos rfl) (Ev.now _)
 ·refine Ev.bind (Ev.congr (fun _ => ho) (Ev.now _)) ?_
  dsimp only [optE]
  refine Ev.congr (fun k => if_neg Bool.false_ne_true) ?_
  refine Ev.bind (Ev.congr (fun _ => solve_f G B X) (Ev.now _)) ?_
  refine Ev.bind (refSolve hG B X) ?_
  refine Ev.congr (fun k => (if_pos rfl).trans (if_pos rfl)) ?_
  refine Ev.bind (Ev.congr (fun _ => Pl.solve_zero_base G 1) (Ev.now _)) ?_
  exact Ev.congr (fun k => rfl) (Ev.now _)
end Go.Proofs.Ytbohbfggmnjpdaa
end
