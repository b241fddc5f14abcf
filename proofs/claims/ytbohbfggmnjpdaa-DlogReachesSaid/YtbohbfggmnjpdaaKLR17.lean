/- What dlogReaches_holds needs: texts Q4, put together. -/
import Derived.Test.YtbohbfggmnjpdaaKLR16
import Derived.Laws.CopyOwn
import Derived.Lib.LazyBuf
set_option linter.unusedVariables false
set_option linter.unusedSimpArgs false
-- Q4
section
namespace Go.Proofs.Ytbohbfggmnjpdaa.Pl
open Go.RowKit Go.Proofs.Ytbohbfggmnjpdaa.P Go.Proofs.Ytbohbfggmnjpdaa.Hand Go.Proofs.YtbohbfggmnjpdaaW.PrintWords
variable {G : GFv} {P M : Int} {mod : List Int}
open Classical in
noncomputable def prB (G : GFv) (x : Int) : Bool := decide (Cw.IsOrd (G.el x) (G.q - 1))
open Classical in
theorem is_isPrimitive (h : Is G P M mod) (x : Int) : Ev (fun k => r8IsPrimitive.f k P M mod x) (prB G x) := by
 have hq := G.q_le
 have hq2 := G.q_ge
 have hk : wrap64 ((G.q : Int) - 1) = ((G.q - 1 : Nat) : Int) := by rw [w64 (by omega) (by omega)]; omega
 unfold prB
 by_cases hx : G.el x = 0
 ·refine Ev.bind (is_mulOrder_zero h x hx) (Ev.bind (is_order04 h) ?_)
  refine Ev.congr (fun k => ?_) (Ev.now _)
  congr 1
  rw [decide_eq_false (fun h => h.ne hx), hk]
  exact beq_eq_false_iff_ne.2 (by omega)
 ·obtain ⟨o, ho⟩ := Cw.ord_ex hx
  refine Ev.bind (is_mulOrder h x ho) (Ev.bind (is_order04 h) ?_)
  refine Ev.congr (fun k => ?_) (Ev.now _)
  congr 1
  rw [hk]
  by_cases hh : o = G.q - 1
  ·rw [decide_eq_true (hh ▸ ho)]
   exact beq_iff_eq.2 (by omega)
  ·rw [decide_eq_false (fun h' => hh (ho.unique h'))]
   exact beq_eq_false_iff_ne.2 (by omega)
open Classical in
theorem prim_least (G : GFv) : ∃ r : Nat, 1 ≤ r ∧ r ≤ G.q - 1 ∧ prB G (r : Int) = true ∧ ∀ c : Nat, c < r → prB G (c : Int) = false := by
 have hq := G.q_le
 have hq2 := G.q_ge
 obtain ⟨a, ha⟩ := Cw.prim_ex (K := Cw.El G.F)
 have ha' : Cw.IsOrd a (G.q - 1) := ha
 obtain ⟨r, hr, hmin⟩ := Cw.least_ex (P := fun n => prB G (n : Int) = true) ⟨a.code, decide_eq_true (by
  have : G.el ((a.code : Nat) : Int) = a := G.el_num a
  rw [this]; exact ha')⟩
 have h0 : r ≠ 0 := by
  rintro rfl
  have h9 := of_decide_eq_true hr
  have : G.el ((0 : Nat) : Int) = 0 := G.el_zero
  rw [this] at h9
  exact h9.ne rfl
 have hle : r ≤ a.code := by
  refine Nat.le_of_not_lt (fun hlt => hmin a.code hlt (decide_eq_true ?_))
  have : G.el ((a.code : Nat) : Int) = a := G.el_num a
  rw [this]; exact ha'
 have hcl : a.code < G.q := a.code_lt
 exact ⟨r, by omega, by omega, hr, fun c hc => Bool.eq_false_iff.mpr (hmin c hc)⟩
open Classical in
theorem prim08_loop (h : Is G P M mod) (r : Nat) (h1 : r ≤ G.q - 1) (hr : prB G (r : Int) = true) (hmin : ∀ c : Nat, c < r → prB G (c : Int) = false) : ∀ e x, x + e = r → Ev (fun k => r8Primitive.l0 k (x : Int) P M mod) (r : Int) := by
 intro e
 have hq := G.q_le
 have hq2 := G.q_ge
 have hk : wrap64 ((G.q : Int) - 1) = ((G.q - 1 : Nat) : Int) := by rw [w64 (by omega) (by omega)]; omega
 induction e with
 | zero =>
  intro x hx
  obtain rfl : x = r := by omega
  refine Ev.step (fun k => by simp only [r8Primitive.l0]; rfl) (Ev.bind (is_order04 h) ?_)
  rw [hk]
  by_cases hc : (x : Int) < ((G.q - 1 : Nat) : Int)
  ·refine Ev.congr (fun k => if_pos hc) ?_
   have hp := is_isPrimitive h (x : Int)
   rw [hr] at hp
   refine Ev.bind hp ?_
   exact Ev.congr (fun k => if_pos rfl) (Ev.now _)
  ·exact Ev.congr (fun k => if_neg hc) (Ev.now _)
 | succ e ih =>
  intro x hx
  have hx1 : wrap64 ((x : Int) + 1) = ((x + 1 : Nat) : Int) := by rw [w64 (by omega) (by omega)]; rfl
  refine Ev.step (fun k => by simp only [r8Primitive.l0]; rfl) (Ev.bind (is_order04 h) ?_)
  rw [hk]
  refine Ev.congr (fun k => if_pos (by omega)) ?_
  have hp := is_isPrimitive h (x : Int)
  rw [hmin x (by omega)] at hp
  refine Ev.bind hp ?_
  refine Ev.congr (fun k => if_neg Bool.false_ne_true) ?_
  rw [hx1]
  exact ih (x + 1) (by omega)
theorem find_upto (b : Int → Bool) (r n : Nat) (hrn : r < n) (hr : b (r : Int) = true) (hmin : ∀ c : Nat, c < r → b (c : Int) = false) : (upto n).find? b = some (r : Int) := by
 obtain ⟨t, ht⟩ := upto_prefix (i := r + 1) (n := n) (by omega)
 rw [← ht, upto_succ, List.append_assoc, List.find?_append, List.find?_eq_none.2 (fun y hy => ?_)]
 ·simp [hr]
 ·unfold upto at hy
  obtain ⟨c, hc, rfl⟩ := List.mem_map.1 hy
  rw [hmin c (List.mem_range.1 hc)]; decide
open Classical in
theorem primitive_both (h : Is G P M mod) : ∃ r : Nat, 1 ≤ r ∧ r ≤ G.q - 1 ∧ Cw.IsOrd (G.el (r : Int)) (G.q - 1) ∧ dlog_Primitive.f G = some (r : Int) ∧ Ev (fun k => r8Primitive.f k P M mod) (r : Int) := by
 obtain ⟨r, h1, h2, h3, h4⟩ := prim_least G
 have hq2 := G.q_ge
 have hall : ∀ x : Int, ∃ b, Ev (fun k => dlog_IsPrimitive.f k G x) b := fun x => ⟨_, isPrimitive_ev G x⟩
 refine ⟨r, h1, h2, of_decide_eq_true h3, ?_, prim08_loop h r h2 h3 h4 (r - 1) 1 (by omega)⟩
 unfold dlog_Primitive.f
 rw [dif_pos hall]
 have hb : (fun x => Classical.choose (hall x)) = prB G := funext (fun x => by
  have h5 := Ev.uniq (Classical.choose_spec (hall x)) (isPrimitive_ev G x)
  rw [h5]
  unfold prB
  congr)
 rw [hb, find_upto (prB G) r G.q (by omega) h3 h4]
 rfl
end Go.Proofs.Ytbohbfggmnjpdaa.Pl
end
