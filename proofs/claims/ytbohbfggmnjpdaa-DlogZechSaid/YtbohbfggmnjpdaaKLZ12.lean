/- What dlogZech_holds needs: texts Hv, put together. -/
import Derived.Test.YtbohbfggmnjpdaaKLZ11
import Derived.Maps.Own
import Derived.Maps.OwnOps
import Derived.Maps.OwnSet
import Derived.Maps.Views
set_option linter.unusedVariables false
set_option linter.unusedSimpArgs false
-- Hv
section
namespace Go.Proofs.Ytbohbfggmnjpdaa.Hand
noncomputable section
open Go.RowKit Go.Maps Go.Proofs.Ytbohbfggmnjpdaa.P Go.Proofs.YtbohbfggmnjpdaaW.PrintWords
open Classical in
def solveV (G : GFv) (b x : Int) : Int × Int := if h : ∃ t, Cw.pw (G.el b) t = G.el x then (((Classical.choose (Cw.least_ex h) : Nat) : Int), 0) else (0, 11)
theorem solveV_found {G : GFv} {b x : Int} {N : Nat} (he : Cw.pw (G.el b) N = G.el x) (hmin : ∀ s, s < N → Cw.pw (G.el b) s ≠ G.el x) : solveV G b x = ((N : Int), 0) := by
 have h : ∃ t, Cw.pw (G.el b) t = G.el x := ⟨N, he⟩
 unfold solveV
 rw [dif_pos h]
 have hs := Classical.choose_spec (Cw.least_ex h)
 have e : Classical.choose (Cw.least_ex h) = N := by
  rcases Nat.lt_trichotomy (Classical.choose (Cw.least_ex h)) N with h1 | h1 | h1
  ·exact absurd hs.1 (hmin _ h1)
  ·exact h1
  ·exact absurd he (hs.2 N h1)
 rw [e]
theorem solveV_none {G : GFv} {b x : Int} (h : ∀ s, Cw.pw (G.el b) s ≠ G.el x) : solveV G b x = (0, 11) := by
 unfold solveV
 rw [dif_neg (fun ⟨t, ht⟩ => h t ht)]
end
end Go.Proofs.Ytbohbfggmnjpdaa.Hand
end
