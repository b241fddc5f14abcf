/- What dlogReaches_holds needs: texts Q5, put together. -/
import Derived.Test.YtbohbfggmnjpdaaKLR13
import Derived.Laws.CopyOwn
import Derived.Lib.LazyBuf
set_option linter.unusedVariables false
set_option linter.unusedSimpArgs false
-- Q5
section
namespace Go.Proofs.Ytbohbfggmnjpdaa.Pl
open Go.RowKit Go.Proofs.Ytbohbfggmnjpdaa.P Go.Proofs.Ytbohbfggmnjpdaa.Hand Go.Proofs.YtbohbfggmnjpdaaW.PrintWords
variable {G : GFv} {P M : Int} {mod : List Int}
open Classical in
noncomputable def solveR (G : GFv) (b x : Int) : Int × Int := if G.el b = 0 ∨ G.el x = 0 then (0, 7) else solveV G b x
theorem el_ne {G : GFv} {x : Int} : G.el x ≠ 0 ↔ G.is x ∧ x ≠ 0 := by
 rw [ne_eq, G.el_eq_zero]
 constructor
 ·intro h
  have h1 : G.is x := Classical.byContradiction fun hn => h (by unfold Cw.GFv.inn; rw [if_neg hn])
  exact ⟨h1, fun h0 => h (by rw [G.inn_of h1]; exact h0)⟩
 ·rintro ⟨h1, h2⟩ h
  rw [G.inn_of h1] at h
  exact h2 h
theorem solve_f (G : GFv) (b x : Int) : dlog_Solve.f G b x = some (solveR G b x) := by
 classical
 unfold dlog_Solve.f solveR
 by_cases hb : G.el b = 0
 ·have h1 : ¬ G.is b ∨ b = 0 := Classical.byContradiction fun hn => el_ne.2 ⟨Classical.byContradiction fun h => hn (Or.inl h), fun h => hn (Or.inr h)⟩ hb
  rw [if_pos h1, if_pos (Or.inl hb)]
 have hb' := el_ne.1 hb
 rw [if_neg (fun h => h.elim (fun h => h hb'.1) hb'.2)]
 by_cases hx : G.el x = 0
 ·have h1 : ¬ G.is x ∨ x = 0 := Classical.byContradiction fun hn => el_ne.2 ⟨Classical.byContradiction fun h => hn (Or.inl h), fun h => hn (Or.inr h)⟩ hx
  rw [if_pos h1, if_pos (Or.inr hx)]
 have hx' := el_ne.1 hx
 rw [if_neg (fun h => h.elim (fun h => h hx'.1) hx'.2)]
 obtain ⟨o, ho⟩ := Cw.ord_ex hb
 obtain ⟨l, _, hev⟩ := order08_ord G b ho
 obtain ⟨ko, hk⟩ := hev.rounds
 have hlt := ord_lt G ho
 have hq := G.q_le
 rw [if_pos ⟨o, ho, by omega, ko, ints l, hk⟩, if_neg (fun h => h.elim hb hx)]
end Go.Proofs.Ytbohbfggmnjpdaa.Pl
end
