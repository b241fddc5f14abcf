/- What dlogReaches_holds needs: texts Hvd, put together. -/
import Derived.Test.YtbohbfggmnjpdaaKLR11
import Derived.Maps.Own
import Derived.Maps.OwnOps
import Derived.Maps.OwnSet
import Derived.Maps.Views
set_option linter.unusedVariables false
set_option linter.unusedSimpArgs false
-- Hvd
section
namespace Go.Proofs.Ytbohbfggmnjpdaa.Hand
noncomputable section
open Go.RowKit Go.Maps Go.Proofs.YtbohbfggmnjpdaaW.PrintWords
def bkey (G : GFv) (b : Int) (j : Nat) : Lit := .int .i64 (G.num (Cw.pw (G.el b) j))
open Classical in
def babyD (G : GFv) (b : Int) : Nat → DataW Unit
 | 0 => .map []
 | j + 1 => if has (babyD G b j) (bkey G b j) = true then babyD G b j else (babyD G b j).put (bkey G b j) (.lit (.int .i64 (j : Int)))
theorem babyD_map (G : GFv) (b : Int) (j : Nat) : IsMap (babyD G b j) := by
 induction j with
 | zero => exact ⟨[], rfl⟩
 | succ j ih =>
  unfold babyD
  split
  ·exact ih
  ·exact IsMap.put ih _ _
theorem isKey_int (n : Int) : WideAt.IsKeyLit (.int .i64 n) := by
 unfold WideAt.IsKeyLit
 trivial
theorem baby_has (G : GFv) (b : Int) (v : Int) : ∀ j, has (babyD G b j) (.int .i64 v) = true ↔ ∃ t, t < j ∧ G.num (Cw.pw (G.el b) t) = v := by
 intro j
 induction j with
 | zero =>
  constructor
  ·intro h; exact absurd h (by simp [babyD, has])
  ·rintro ⟨t, ht, _⟩; omega
 | succ j ih =>
  have e : babyD G b (j + 1) = if has (babyD G b j) (bkey G b j) = true then babyD G b j else (babyD G b j).put (bkey G b j) (.lit (.int .i64 (j : Int))) := rfl
  rw [e]
  by_cases hv : G.num (Cw.pw (G.el b) j) = v
  ·have hk : bkey G b j = .int .i64 v := by unfold bkey; rw [hv]
   rw [hk]
   constructor
   ·intro _; exact ⟨j, by omega, hv⟩
   ·intro _
    split
    ·assumption
    ·exact has_put_same (babyD_map G b j) (isKey_int v) _
  ·have hk : (.int .i64 v : Lit) ≠ bkey G b j := by
    unfold bkey
    intro h
    injection h with _ h2
    exact hv h2.symm
   have h2 : has (if has (babyD G b j) (bkey G b j) = true then babyD G b j else (babyD G b j).put (bkey G b j) (.lit (.int .i64 (j : Int)))) (.int .i64 v) = has (babyD G b j) (.int .i64 v) := by
    split
    ·rfl
    ·exact has_put_other hk _
   rw [h2, ih]
   constructor
   ·rintro ⟨t, ht, h⟩; exact ⟨t, by omega, h⟩
   ·rintro ⟨t, ht, h⟩
    refine ⟨t, ?_, h⟩
    by_cases htj : t = j
    ·rw [htj] at h; exact absurd h hv
    ·omega
theorem baby_at (G : GFv) (b : Int) (v : Int) (z : DataW Unit) : ∀ j t, t < j → G.num (Cw.pw (G.el b) t) = v → (∀ s, s < t → G.num (Cw.pw (G.el b) s) ≠ v) → (babyD G b j).atKey (.int .i64 v) z = .lit (.int .i64 (t : Int)) := by
 intro j
 induction j with
 | zero => intro t ht; omega
 | succ j ih =>
  intro t ht hv hmin
  have e : babyD G b (j + 1) = if has (babyD G b j) (bkey G b j) = true then babyD G b j else (babyD G b j).put (bkey G b j) (.lit (.int .i64 (j : Int))) := rfl
  rw [e]
  by_cases htj : t = j
  ·subst htj
   have hno : ¬ has (babyD G b t) (bkey G b t) = true := by
    unfold bkey
    rw [hv, baby_has]
    rintro ⟨s, hs, h⟩
    exact hmin s hs h
   rw [if_neg hno]
   have hk : bkey G b t = .int .i64 v := by unfold bkey; rw [hv]
   rw [hk]
   exact atKey_put_same (babyD_map G b t) (isKey_int v) _ _
  ·have h1 := ih t (by omega) hv hmin
   by_cases hvj : G.num (Cw.pw (G.el b) j) = v
   ·have hyes : has (babyD G b j) (bkey G b j) = true := by
     unfold bkey
     rw [hvj, baby_has]
     exact ⟨t, by omega, hv⟩
    rw [if_pos hyes]
    exact h1
   ·have hk : (.int .i64 v : Lit) ≠ bkey G b j := by
     unfold bkey
     intro h
     injection h with _ h2
     exact hvj h2.symm
    split
    ·exact h1
    ·rw [atKey_put_other hk]
     exact h1
end
end Go.Proofs.Ytbohbfggmnjpdaa.Hand
end
