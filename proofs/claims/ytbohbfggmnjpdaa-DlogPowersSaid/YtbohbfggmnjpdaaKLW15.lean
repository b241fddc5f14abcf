/- What dlogPowers_holds needs: texts PureLW, put together. -/
import Derived.Test.YtbohbfggmnjpdaaKLW14
import Derived.LoopIn
import Derived.LoopNIn
import Derived.OwnWalkIn
import Derived.RangeFuncBound
import Derived.RangeFuncBox
import Derived.RangeFuncCalls
import Derived.RangeFuncLeaves
import Derived.RangeFuncNested
import Derived.Shelf.Abstract
import Derived.TacticsInMore
set_option linter.unusedVariables false
set_option linter.unusedSimpArgs false
-- PureLW
section
namespace Go.Proofs.Ytbohbfggmnjpdaa
open Go.RowKit Go.Proofs.Ytbohbfggmnjpdaa.P Go.Proofs.Ytbohbfggmnjpdaa.Hand Go.Proofs.YtbohbfggmnjpdaaW.PrintWords Pl
theorem Pl.solve_zero_base' (G : GFv) (x : Int) : dlog_Solve.f G 0 x = some (0, 7) := by
 classical
 rw [solve_f]
 unfold solveR
 rw [if_pos (Or.inl G.el_zero)]
theorem Pl.pow_mod (G : GFv) (b n : Int) {o : Nat} (ho : Cw.IsOrd (G.el b) o) : G.pow b n = (G.num (Cw.pw (G.el b) (n % (o : Int)).toNat), 0) := by
 have ho1 := ho.1
 have hd : o ∣ G.q - 1 := ho.dvd
 have hq2 := G.q_ge
 unfold Cw.GFv.pow
 by_cases hn : n = 0
 ·rw [if_pos hn, hn, Int.zero_emod, Int.toNat_zero, Cw.pw_zero, G.num_one]
 rw [if_neg hn, if_neg ho.ne]
 have h0 := Int.emod_nonneg n (show ((G.q - 1 : Nat) : Int) ≠ 0 by omega)
 obtain ⟨t, ht⟩ := Int.eq_ofNat_of_zero_le h0
 have ht' : (n % ((G.q - 1 : Nat) : Int)).toNat = t := by rw [ht]; rfl
 have e1 : n % (o : Int) = ((t % o : Nat) : Int) := by
  rw [← Int.emod_emod_of_dvd n (Int.natCast_dvd_natCast.2 hd), ht, Int.natCast_emod]
 rw [ht', e1, Int.toNat_natCast]
 have e2 : Cw.pw (G.el b) t = Cw.pw (G.el b) (o * (t / o) + t % o) := by rw [Nat.div_add_mod]
 rw [e2, Cw.pw_add, Cw.pw_mul, ho.pow_one, Cw.one_pw, Cw.one_mul]
theorem Pl.solve_pow (G : GFv) (b : Int) {o : Nat} (ho : Cw.IsOrd (G.el b) o) {t : Nat} (ht : t < o) : solveR G b (G.num (Cw.pw (G.el b) t)) = ((t : Int), 0) := by
 classical
 unfold solveR
 rw [G.el_num, if_neg (fun h => h.elim ho.ne (Cw.pw_ne ho.ne t))]
 refine solveV_found (by rw [G.el_num]) (fun s hs e => ?_)
 rw [G.el_num] at e
 have := ho.inj (by omega) ht e
 omega
theorem Pure.DlogPowers (P M : Int) (l : List Int) (B n : Int) (wP : (Lit.int .i64 P).wf = true) (wM : (Lit.int .i64 M).wf = true) (hl : l.length ≤ maxLen) (wl : ∀ x ∈ l, (Lit.int .i64 x).wf = true) (wB : (Lit.int .i64 B).wf = true) (wn : (Lit.int .i64 n).wf = true) :
  ∃ k, l8DlogPowers.f k P M l B n = some true := by
 classical
 refine Ev.rounds (g := fun k => l8DlogPowers.f k P M l B n) ?_
 rcases open_cases P M l (wf_lt wP) with ho | ⟨G, hG, ho⟩
 ·refine Ev.bind (Ev.congr (fun _ => ho) (Ev.now _)) ?_
  dsimp only [optE]
  exact Ev.congr (fun k => if_pos rfl) (Ev.now _)
 ·refine Ev.bind (Ev.congr (fun _ => ho) (Ev.now _)) ?_
  dsimp only [optE]
  refine Ev.congr (fun k => if_neg Bool.false_ne_true) ?_
  have hq := G.q_le
  have hq2 := G.q_ge
  refine Ev.bind (Ev.congr (fun _ => Pl.solve_zero_base' G 1) (Ev.now _)) ?_
  refine Ev.congr (fun k => if_pos rfl) ?_
  by_cases hb : G.el B = 0
  ·refine Ev.bind (order08_zero G B hb) ?_
   have h7 : ¬ (7 : Int) = 0 := by decide
   refine Ev.congr (fun k => if_neg h7) ?_
   refine Ev.bind (is_in hG B) ?_
   exact Ev.congr (fun k => congrArg some (beq_iff_eq.2 (G.el_eq_zero.1 hb))) (Ev.now _)
  obtain ⟨o, ho'⟩ := Cw.ord_ex hb
  obtain ⟨la, hla, eva⟩ := order08_ord G B ho'
  have hlt := ord_lt G ho'
  have ho1 := ho'.1
  refine Ev.bind eva ?_
  have h1 : ¬ (o : Int) < 1 := by omega
  refine Ev.congr (fun k => (if_pos rfl).trans (if_neg h1)) ?_
  have h0 := Int.emod_nonneg n (show (o : Int) ≠ 0 by omega)
  have h2 := Int.emod_lt_of_pos n (show (0 : Int) < (o : Int) by omega)
  have hp : field_GF_Pow.f G B n = some (G.num (Cw.pw (G.el B) (n % (o : Int)).toNat), 0) := congrArg some (Pl.pow_mod G B n ho')
  have hf := solve_f G B (G.num (Cw.pw (G.el B) (n % (o : Int)).toNat))
  rw [Pl.solve_pow G B ho' (by omega), Int.toNat_of_nonneg h0] at hf
  refine Ev.bind (Ev.congr (fun _ => hp) (Ev.now _)) ?_
  refine Ev.bind (Ev.congr (fun _ => hf) (Ev.now _)) ?_
  have h3 : ¬ (o : Int) = 0 := by omega
  refine Ev.congr (fun k => (if_pos rfl).trans ((if_pos rfl).trans ((if_neg h3).trans ?_))) (Ev.now _)
  refine congrArg some (beq_iff_eq.2 ?_)
  show n % (o : Int) = _
  rw [tmod_two n o (by omega) (by omega)]
end Go.Proofs.Ytbohbfggmnjpdaa
end
