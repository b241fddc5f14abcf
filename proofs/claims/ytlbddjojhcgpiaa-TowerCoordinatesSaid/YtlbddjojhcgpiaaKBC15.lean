/- What towerCoordinates_holds needs: texts T8, Hb, BC2, T9, T10, PureBC, put together. -/
import Derived.Test.YtlbddjojhcgpiaaKBC14
import Derived.Deep.RegionWith
set_option linter.unusedVariables false
set_option linter.unusedSimpArgs false
set_option linter.unusedSectionVars false
set_option maxHeartbeats 8000000
set_option maxRecDepth 100000
-- T8
section
namespace Go.Proofs.Ytlbddjojhcgpiaa.Pl
open Go.RowKit Go.Proofs.Ytlbddjojhcgpiaa.P Go.Proofs.Ytlbddjojhcgpiaa.Hand Go.Proofs.YtlbddjojhcgpiaaW.PrintWords
variable {G : GFv} {P M : Int} {mod : List Int}
theorem iteq {α : Type} {p q : Prop} [Decidable p] [Decidable q] (h : p ↔ q) (a b : α) : (if p then a else b) = if q then a else b := by
 by_cases hp : p
 ·rw [if_pos hp, if_pos (h.1 hp)]
 rw [if_neg hp, if_neg (fun hq => hp (h.2 hq))]
def rowsOf (G : GFv) (n : Nat) (B : Nat → Nat → Cw.El G.F) : List (List Int) := (List.range n).map (fun i => mrow G n (B i))
theorem rowsOf_length (G : GFv) (n : Nat) (B : Nat → Nat → Cw.El G.F) : (rowsOf G n B).length = n := by simp [rowsOf]
theorem rowsOf_rd (G : GFv) (n : Nat) (B : Nat → Nat → Cw.El G.F) {i : Nat} (h : i < n) : rd_L2 (rowsOf G n B) (i : Int) = mrow G n (B i) := by
 unfold rd_L2 rowsOf
 rw [Int.toNat_natCast, List.getD_eq_getElem?_getD, List.getElem?_map, List.getElem?_range h]; rfl
theorem rowsOf_congr (G : GFv) (n : Nat) {B C : Nat → Nat → Cw.El G.F} (h : ∀ i j, i < n → j < n + 1 → B i j = C i j) : rowsOf G n B = rowsOf G n C := by
 unfold rowsOf
 refine List.map_congr_left (fun i hi => ?_);exact mrow_congr G (fun j hj => h i j (List.mem_range.1 hi) hj)
theorem rowsOf_set (G : GFv) (n : Nat) (B : Nat → Nat → Cw.El G.F) (i : Nat) (x : Nat → Cw.El G.F) : (rowsOf G n B).set i (mrow G n x) = rowsOf G n (fun i' => if i' = i then x else B i') := by
 apply List.ext_getElem?
 intro t;unfold rowsOf
 rw [List.getElem?_set];simp only [List.length_map, List.length_range, List.getElem?_map];by_cases ht : t < n
 ·rw [List.getElem?_range ht];by_cases h : i = t
  ·subst h;simp [ht]
  rw [if_neg h];simp [show ¬ t = i from fun e => h e.symm]
 have hn : (List.range n)[t]? = none := List.getElem?_eq_none (by rw [List.length_range]; omega);rw [hn];by_cases h : i = t
 ·subst h;simp [ht]
 rw [if_neg h];rfl
def sysM (G : GFv) (d n : Nat) (l : List Int) (ρ : Nat → Cw.El G.F) : Nat → Nat → Cw.El G.F := fun i j => if j < n then Cw.fr (d * i) (G.el (l.getD j 0)) else ρ i
def numsL (G : GFv) (n : Nat) (ρ : Nat → Cw.El G.F) : List Int := (List.range n).map (fun i => G.num (ρ i))
theorem numsL_length (G : GFv) (n : Nat) (ρ : Nat → Cw.El G.F) : (numsL G n ρ).length = n := by simp [numsL]
theorem numsL_rd (G : GFv) (n : Nat) (ρ : Nat → Cw.El G.F) {i : Nat} (h : i < n) : rd (numsL G n ρ) (i : Int) = G.num (ρ i) := by
 unfold rd numsL
 rw [Int.toNat_natCast, List.getD_eq_getElem?_getD, List.getElem?_map, List.getElem?_range h]; rfl
section
variable (G : GFv) (d n : Nat) (l : List Int) (ρ : Nat → Cw.El G.F)
theorem sys_l2 (hn8 : n ≤ 8) (hl : l.length = n) (j : Nat) (hj : j < n) (R : List (List Int)) (hR : Ev (fun k => tower_system.l1 k G (d : Int) (rowsOf G n (fun i t => if t < j + 1 then Cw.fr (d * i) (G.el (l.getD t 0)) else if t = n then ρ i else 0)) l (n : Int) ((j + 1 : Nat) : Int)) R) :
  ∀ e i, i + e = n → Ev (fun k => tower_system.l2 k G (d : Int) (rowsOf G n (fun i' t => if t < j ∨ (t = j ∧ i' < i) then Cw.fr (d * i') (G.el (l.getD t 0)) else if t = n then ρ i' else 0)) (j : Int) l (n : Int) (j : Int) (eachL G d n (l.getD j 0)) (n : Int) (i : Int)) R := by
 intro e;induction e with
 | zero =>
  intro i hi;obtain rfl : i = n := by omega
  have hj1 : wrap64 ((j : Int) + 1) = ((j + 1 : Nat) : Int) := by rw [Pl.w64 (by omega) (by omega)]; rfl
  refine Ev.step (fun k => ?_) hR;simp only [tower_system.l2];rw [if_neg (by omega), hj1];congr 1
  refine rowsOf_congr G i (fun i' t h1 h2 => ?_);exact iteq (by omega) _ _
 | succ e ih =>
  intro i hi;have hin : i < n := by omega
  have c1 : (i : Int) < (n : Int) := by omega
  have hie : i + 1 + e = n := by omega
  have hi1 : wrap64 ((i : Int) + 1) = ((i + 1 : Nat) : Int) := by rw [Pl.w64 (by omega) (by omega)]; rfl
  refine Ev.step (fun k => ?_) (ih (i + 1) hie);have hel : ((eachL G d n (l.getD j 0)).length : Int) = (n : Int) := by rw [eachL_length]
  have hrl : ((rowsOf G n (fun i' t => if t < j ∨ (t = j ∧ i' < i) then Cw.fr (d * i') (G.el (l.getD t 0)) else if t = n then ρ i' else 0)).length : Int) = (n : Int) := by rw [rowsOf_length]
  have hrr := rowsOf_rd G n (fun i' t => if t < j ∨ (t = j ∧ i' < i) then Cw.fr (d * i') (G.el (l.getD t 0)) else if t = n then ρ i' else 0) hin;have c2 : (0 : Int) ≤ (i : Int) := by omega
  have c3 : (0 : Int) ≤ (j : Int) := by omega
  have c4 : (j : Int) < ((n + 1 : Nat) : Int) := by omega
  simp only [tower_system.l2];rw [hel, hrl, hrr, eachL_rd G d n _ hin, mrow_length, if_pos c1, if_pos c2, if_pos c1, if_pos c1, if_pos c3, if_pos c4, hi1, Int.toNat_natCast, Int.toNat_natCast];unfold frN
  rw [mrow_set, rowsOf_set];congr 1
  refine rowsOf_congr G n (fun i' t h1 h2 => ?_);by_cases e1 : i' = i
  ·rw [if_pos e1, e1];by_cases e2 : t = j
   ·rw [if_pos e2, if_pos (by omega), e2]
   rw [if_neg e2];exact iteq (by omega) _ _
  rw [if_neg e1];exact iteq (by omega) _ _
theorem sys_l1 (hn8 : n ≤ 8) (hl : l.length = n) (hd1 : 1 ≤ d) (hdm : d ∣ G.F.m) (hn : n = G.F.m / d) : ∀ e j, j + e = n →
  Ev (fun k => tower_system.l1 k G (d : Int) (rowsOf G n (fun i t => if t < j then Cw.fr (d * i) (G.el (l.getD t 0)) else if t = n then ρ i else 0)) l (n : Int) (j : Int)) (rowsOf G n (sysM G d n l ρ)) := by
 intro e;induction e with
 | zero =>
  intro j hj;obtain rfl : j = n := by omega
  refine Ev.step (f := fun _ => some _) (fun k => ?_) (Ev.now _);simp only [tower_system.l1];rw [if_neg (by omega)];congr 1
  refine rowsOf_congr G j (fun i t h1 h2 => ?_);unfold sysM
  by_cases h3 : t < j
  ·rw [if_pos h3, if_pos h3]
  rw [if_neg h3, if_neg h3, if_pos (by omega)]
 | succ e ih =>
  intro j hj;have hjn : j < n := by omega
  have c1 : (j : Int) < (n : Int) := by omega
  have c2 : (0 : Int) ≤ (j : Int) := by omega
  have hje : j + 1 + e = n := by omega
  have hll : (l.length : Int) = (n : Int) := by rw [hl]
  have hev := each_ev G d hd1 hdm (rd l (j : Int));rw [← hn] at hev;have hrd : rd l (j : Int) = l.getD j 0 := by unfold rd; rw [Int.toNat_natCast]
  have h2 := sys_l2 G d n l ρ hn8 hl j hjn _ (ih (j + 1) hje) n 0 (by omega);refine Ev.step (fun k => by simp only [tower_system.l1]; rw [if_pos c1, if_pos c2, hll, if_pos c1]) (Ev.bind hev ?_);rw [hrd, eachL_length];refine Ev.congr (fun k => ?_) h2;congr 1
  refine rowsOf_congr G n (fun i t h1 h3 => ?_);exact iteq (by omega) _ _
theorem sys_l0 (hn8 : n ≤ 8) (hl : l.length = n) (R : List (List Int)) (hR : Ev (fun k => tower_system.l1 k G (d : Int) (rowsOf G n (fun i t => if t < 0 then Cw.fr (d * i) (G.el (l.getD t 0)) else if t = n then ρ i else 0)) l (n : Int) ((0 : Nat) : Int)) R) :
  ∀ e i, i + e = n → Ev (fun k => tower_system.l0 k G l (d : Int) (numsL G n ρ) ((rowsOf G n (fun i t => if t < 0 then Cw.fr (d * i) (G.el (l.getD t 0)) else if t = n then ρ i else 0)).take i ++ List.replicate e []) (n : Int) (i : Int)) R := by
 intro e;have hll : (l.length : Int) = (n : Int) := by rw [hl]
 have hrl := rowsOf_length G n (fun i t => if t < 0 then Cw.fr (d * i) (G.el (l.getD t 0)) else if t = n then ρ i else 0);induction e with
 | zero =>
  intro i hi;obtain rfl : i = n := by omega
  refine Ev.step (fun k => ?_) hR;simp only [tower_system.l0];rw [if_neg (by omega), List.take_of_length_le (by omega), List.replicate_zero, List.append_nil, hll];rfl
 | succ e ih =>
  intro i hi;have hin : i < n := by omega
  have c1 : (i : Int) < (n : Int) := by omega
  have c2 : (0 : Int) ≤ (i : Int) := by omega
  have hie : i + 1 + e = n := by omega
  have hi1 : wrap64 ((i : Int) + 1) = ((i + 1 : Nat) : Int) := by rw [Pl.w64 (by omega) (by omega)]; rfl
  have hn1 : wrap64 ((n : Int) + 1) = ((n + 1 : Nat) : Int) := by rw [Pl.w64 (by omega) (by omega)]; rfl
  have c3 : (0 : Int) ≤ ((n + 1 : Nat) : Int) := by omega
  have c4 : n + 1 ≤ 35184372088832 := by omega
  have c5 : (0 : Int) ≤ (n : Int) := by omega
  have c6 : (n : Int) < ((n + 1 : Nat) : Int) := by omega
  have hlen : ((((rowsOf G n (fun i t => if t < 0 then Cw.fr (d * i) (G.el (l.getD t 0)) else if t = n then ρ i else 0)).take i ++ List.replicate (e + 1) []).length : Nat) : Int) = (n : Int) := by
   rw [List.length_append, List.length_take, hrl, List.length_replicate]; omega
  have hrow0 : List.replicate (n + 1) (0 : Int) = mrow G n (fun _ => 0) := by
   apply List.ext_getElem?
   intro t;unfold mrow
   rw [List.getElem?_map, List.getElem?_replicate];by_cases ht : t < n + 1
   ·rw [List.getElem?_range ht, if_pos ht];show some (0 : Int) = some (G.num 0)
    rw [G.num_zero]
   rw [if_neg ht, List.getElem?_eq_none (by rw [List.length_range]; omega)];rfl
  have hnl : ((numsL G n ρ).length : Int) = (n : Int) := by rw [numsL_length]
  have hset : ∀ x : List Int, (((rowsOf G n (fun i t => if t < 0 then Cw.fr (d * i) (G.el (l.getD t 0)) else if t = n then ρ i else 0)).take i ++ List.replicate (e + 1) []).set i x) = (rowsOf G n (fun i t => if t < 0 then Cw.fr (d * i) (G.el (l.getD t 0)) else if t = n then ρ i else 0)).take i ++ x :: List.replicate e [] := by
   intro x;rw [List.set_append_right _ _ (by rw [List.length_take, hrl]; omega), List.length_take, hrl, Nat.min_eq_left (by omega), Nat.sub_self, List.replicate_succ, List.set_cons_zero]
  have hget : ∀ x : List Int, rd_L2 ((rowsOf G n (fun i t => if t < 0 then Cw.fr (d * i) (G.el (l.getD t 0)) else if t = n then ρ i else 0)).take i ++ x :: List.replicate e []) (i : Int) = x := by
   intro x;unfold rd_L2
   rw [Int.toNat_natCast, List.getD_eq_getElem?_getD, List.getElem?_append_right (by rw [List.length_take, hrl]; omega), List.length_take, hrl, Nat.min_eq_left (by omega), Nat.sub_self];rfl
  have hset2 : ∀ x y : List Int, ((rowsOf G n (fun i t => if t < 0 then Cw.fr (d * i) (G.el (l.getD t 0)) else if t = n then ρ i else 0)).take i ++ x :: List.replicate e []).set i y = (rowsOf G n (fun i t => if t < 0 then Cw.fr (d * i) (G.el (l.getD t 0)) else if t = n then ρ i else 0)).take i ++ y :: List.replicate e [] := by
   intro x y;rw [List.set_append_right _ _ (by rw [List.length_take, hrl]; omega), List.length_take, hrl, Nat.min_eq_left (by omega), Nat.sub_self, List.set_cons_zero]
  have hfin : (rowsOf G n (fun i t => if t < 0 then Cw.fr (d * i) (G.el (l.getD t 0)) else if t = n then ρ i else 0)).take i ++ (mrow G n (fun t => if t = n then ρ i else 0)) :: List.replicate e [] = (rowsOf G n (fun i t => if t < 0 then Cw.fr (d * i) (G.el (l.getD t 0)) else if t = n then ρ i else 0)).take (i + 1) ++ List.replicate e [] := by
   have hlt : i < (rowsOf G n (fun i t => if t < 0 then Cw.fr (d * i) (G.el (l.getD t 0)) else if t = n then ρ i else 0)).length := by rw [hrl]; exact hin
   rw [← List.take_append_getElem hlt, List.append_assoc];congr 1
   have : (rowsOf G n (fun i t => if t < 0 then Cw.fr (d * i) (G.el (l.getD t 0)) else if t = n then ρ i else 0))[i] = mrow G n (fun t => if t = n then ρ i else 0) := by
    have h9 : (rowsOf G n (fun i t => if t < 0 then Cw.fr (d * i) (G.el (l.getD t 0)) else if t = n then ρ i else 0))[i]? = some (mrow G n (fun t => if t < 0 then Cw.fr (d * i) (G.el (l.getD t 0)) else if t = n then ρ i else 0)) := by
     unfold rowsOf
     rw [List.getElem?_map, List.getElem?_range hin]; rfl
    rw [List.getElem?_eq_getElem hlt] at h9;rw [Option.some.inj h9];exact mrow_congr G (fun t ht => by rw [if_neg (by omega)])
   rw [this];rfl
  refine Ev.step (fun k => ?_) (ih (i + 1) hie);simp only [tower_system.l0];rw [if_pos c1, hll, hn1, if_pos c3, Int.toNat_natCast, if_pos c4, if_pos c2, if_pos (by rw [hlen]; exact c1), Option.bind_some, hnl, if_pos c1, if_pos c5, Int.toNat_natCast, hset, hget, hset2, hrow0, mrow_length, if_pos c6, hi1, Int.toNat_natCast, numsL_rd G n ρ hin, mrow_set, hfin]
theorem system_ev (hn1 : 1 ≤ n) (hn8 : n ≤ 8) (hl : l.length = n) (hd1 : 1 ≤ d) (hdm : d ∣ G.F.m) (hn : n = G.F.m / d) :
  Ev (fun k => tower_system.f k G l (d : Int) (numsL G n ρ)) (rowsOf G n (sysM G d n l ρ)) := by
 have h1 := sys_l1 G d n l ρ hn8 hl hd1 hdm hn n 0 (by omega);have h0 := sys_l0 G d n l ρ hn8 hl _ h1 n 0 (by omega);refine Ev.congr (fun k => ?_) h0;have hnl : ((numsL G n ρ).length : Int) = (n : Int) := by rw [numsL_length]
 unfold tower_system.f
 rw [hnl, if_pos (by omega), Int.toNat_natCast, if_pos (by omega), Option.bind_some, List.length_replicate];rfl
end
end Go.Proofs.Ytlbddjojhcgpiaa.Pl
end
-- Hb
section
namespace Go.Proofs.Ytlbddjojhcgpiaa.Hand
noncomputable section
open Go.RowKit Go.Proofs.Ytlbddjojhcgpiaa.P Go.Proofs.YtlbddjojhcgpiaaW.PrintWords Go.Proofs.YtlbddjojhcgpiaaW.PrintLast Go.Proofs.YtlbddjojhcgpiaaW.PrintMore Go.Proofs.Ytlbddjojhcgpiaa.Pl
def elL (G : GFv) (l : List Int) (j : Nat) : Cw.El G.F := G.el (l.getD j 0)
theorem sys_congr {G : GFv} {d n : Nat} {l : List Int} {ρ : Nat → Cw.El G.F} {v : Nat → Cw.El G.F} {i : Nat} : Cw.sm (n + 1) (fun j => sysM G d n l ρ i j * v j) = Cw.sm n (fun j => Cw.fr (d * i) (elL G l j) * v j) + ρ i * v n := by
 rw [Cw.sm_succ];congr 1
 ·refine Cw.sm_congr (fun j hj => ?_);unfold sysM
  rw [if_pos hj];rfl
 unfold sysM
 rw [if_neg (Nat.lt_irrefl n)]
theorem good_inj {G : GFv} {d n : Nat} {l : List Int} {ρ x : Nat → Cw.El G.F} (h : Cw.Good n (sysM G d n l ρ) x) : Cw.Inj d n (elL G l) := by
 intro v hv j hj
 have h1 := (h (fun t => if t < n then v t else 0)).1 (fun i hi => by
  rw [sys_congr, if_neg (Nat.lt_irrefl n), Cw.mul_zero, Cw.add_zero, ← hv i hi];exact Cw.sm_congr (fun t ht => by rw [if_pos ht])) j hj
 rw [if_pos hj, if_neg (Nat.lt_irrefl n), Cw.mul_zero, Cw.add_zero] at h1;exact h1
theorem good_sol {G : GFv} {d n : Nat} {l : List Int} {ρ x : Nat → Cw.El G.F} (h : Cw.Good n (sysM G d n l ρ) x) : ∀ i, i < n → Cw.sm n (fun j => Cw.fr (d * i) (elL G l j) * x j) = ρ i := by
 intro i hi
 have h1 := (h (fun t => if t < n then x t else -1)).2 (fun t ht => by
  rw [if_pos ht, if_neg (Nat.lt_irrefl n), Cw.mul_neg, Cw.mul_one, Cw.add_neg]) i hi
 rw [sys_congr, if_neg (Nat.lt_irrefl n), Cw.mul_neg, Cw.mul_one] at h1;have h2 := Cw.sub_eq_zero h1;rw [← h2];exact Cw.sm_congr (fun t ht => by rw [if_pos ht])
theorem bad_inj {G : GFv} {d n : Nat} {l : List Int} {ρ : Nat → Cw.El G.F} (h : Cw.Bad n (sysM G d n l ρ)) : ¬ Cw.Inj d n (elL G l) := by
 intro hI;obtain ⟨v, h0, ⟨j, hj, hne⟩, hs⟩ := h;refine hne (hI v (fun i hi => ?_) j hj);have := hs i hi;rw [sys_congr, h0, Cw.mul_zero, Cw.add_zero] at this;exact this
theorem isDegree_no {G : GFv} {d : Int} (h : ¬ Dv G d) : tower_isDegree.f G d = some false := by
 classical
 rw [isDegree_f, decide_eq_false h]
theorem isDegree_yes {G : GFv} {d : Nat} (hd1 : 1 ≤ d) (hdm : d ∣ G.F.m) : tower_isDegree.f G (d : Int) = some true := by
 classical
 rw [isDegree_f, decide_eq_true ⟨d, rfl, hd1, hdm⟩]
theorem solve_calls (gb n R cR : Nat) (G : GFv) (rb0 cp0 : Nat → Nat) (A0 : Nat → Nat → Cw.El G.F) (hn : 1 ≤ n) (hn8 : n ≤ 8) (w0 w : World) (hg0 : GFok w0 gb G) (hB0 : Below w0.heap.size w0 w) (hM0 : MX G w w0.heap.size R n rb0 cp0 A0) :
  Calls Try.prog 40 #[.pointer (some ⟨gb, 0, none⟩), .slice (some ⟨R, 0, none⟩) n cR] w fun e w' => ∃ v b, e = .returned (.tuple #[v, .bool b]) ∧ Below w0.heap.size w0 w' ∧ ((b = false ∧ Cw.Bad n A0) ∨ (b = true ∧ ∃ x, Kd.R (Kd.int .i64) 3 w' w0.heap.size (fun _ => True) v (numsL G n x) ∧ Cw.Good n A0 x)) :=
 (solve_walk gb n R cR G rb0 cp0 A0 hn hn8 w0 w hg0 hB0 hM0).mono fun e w' ⟨h1, h2⟩ => h2.elim (fun ⟨h3, h4⟩ => ⟨_, false, h3, h1, Or.inl ⟨rfl, h4⟩⟩) (fun ⟨v, x, h3, h4, h5⟩ => ⟨v, true, h3, h1, Or.inr ⟨rfl, x, h4, h5⟩⟩)
open Classical in
def tower_basis.f (G : GFv) (l : List Int) (d : Int) : Option Int :=
 if ¬ Dv G d then some 6 else if l.length ≠ G.F.m / d.toNat then some 9 else if Cw.Inj d.toNat (G.F.m / d.toNat) (elL G l) then some 0 else some 9
set_option maxHeartbeats 4000000 in
theorem basis_no (gb : Nat) (G : GFv) (A1 : Option Addr) (c1 : Nat) (l : List Int) (d : Int) (hd : ¬ Dv G d) (w : World) (hg0 : GFok w gb G) :
  Calls Try.prog 39 #[.pointer (some ⟨gb, 0, none⟩), .slice A1 l.length c1, .int .i64 d] w fun e w' => e = .returned (.int .i64 6) ∧ Below w.heap.size w w' := by
 have hi := tower_isDegree.calls gb G d false w hg0 (isDegree_no hd);go_enter Try.func39, Try.ntmps39
 go_wp2_with (first | (go_at_call 46; refine hi.mono ?_; clear hi; rintro e w2 ⟨rfl, hb2⟩))
 go_ret
 exact ⟨rfl, hb2⟩
theorem each_calls (gb : Nat) (G : GFv) (d : Nat) (hd1 : 1 ≤ d) (hdm : d ∣ G.F.m) (x : Int) (w : World) (hg0 : GFok w gb G) :
  Calls Try.prog 48 #[.pointer (some ⟨gb, 0, none⟩), .int .i64 x, .int .i64 (d : Int)] w fun e w' => ∃ A c, e = .returned (.slice A (G.F.m / d) c) ∧ G.F.m / d ≤ c ∧ Kd.C (Kd.int .i64) w' A (G.F.m / d) (eachL G d (G.F.m / d) x) ∧ Below w.heap.size w w' := by
 obtain ⟨k, hk⟩ := (each_ev G d hd1 hdm x).rounds;refine (tower_each.calls k gb G x (d : Int) _ w hg0 hk).mono ?_;rintro e w' ⟨v, he, hR, hb⟩;obtain ⟨A, c, rfl⟩ := Kd.R_slice hR;have h := Kd.R_reads' hR;rw [eachL_length] at h he hR;exact ⟨A, c, he, h.2.1, h.2.2, hb⟩
theorem eachL_nums (G : GFv) (d n : Nat) (x : Int) : eachL G d n x = numsL G n (fun i => Cw.fr (d * i) (G.el x)) := rfl
theorem system_calls (gb : Nat) (G : GFv) (d n : Nat) (hd1 : 1 ≤ d) (hdm : d ∣ G.F.m) (hn : n = G.F.m / d) (A1 A3 : Option Addr) (c1 c3 : Nat) (l : List Int) (hl : l.length = n) (ρ : Nat → Cw.El G.F) (w : World) (hg0 : GFok w gb G)
  (hr1 : Kd.C (Kd.int .i64) w A1 l.length l) (hc1 : l.length ≤ c1) (hr3 : Kd.C (Kd.int .i64) w A3 n (numsL G n ρ)) (hc3 : n ≤ c3) :
  Calls Try.prog 41 #[.pointer (some ⟨gb, 0, none⟩), .slice A1 l.length c1, .int .i64 (d : Int), .slice A3 n c3] w fun e w' => ∃ R cR rb cp, e = .returned (.slice (some ⟨R, 0, none⟩) n cR) ∧ MX G w' w.heap.size R n rb cp (sysM G d n l ρ) ∧ Below w.heap.size w w' := by
 have hm := G.m_le;have hdl := Nat.le_of_dvd G.m_pos hdm;have hn1 : 1 ≤ n := by rw [hn]; exact Nat.div_pos hdl (by omega)
 have hn8 : n ≤ 8 := by rw [hn]; exact Nat.le_trans (Nat.div_le_self _ _) hm
 obtain ⟨k, hk⟩ := (system_ev G d n l ρ hn1 hn8 hl hd1 hdm hn).rounds;have hs := tower_system.calls k gb G A1 c1 l (d : Int) A3 c3 (numsL G n ρ) _ w hg0 hr1 hc1 (by rw [numsL_length]; exact hr3) (by rw [numsL_length]; exact hc3) hk;rw [numsL_length] at hs;refine hs.mono ?_;rintro e w' ⟨v, he, hS, hb⟩;obtain ⟨R, cR, rb, cp, rfl, hM⟩ := MX.of_S (by omega) hS rfl;exact ⟨R, cR, rb, cp, he, hM, hb⟩
set_option maxHeartbeats 4000000 in
theorem basis_len (gb : Nat) (G : GFv) (A1 : Option Addr) (c1 : Nat) (l : List Int) (d : Nat) (hd1 : 1 ≤ d) (hdm : d ∣ G.F.m) (hl : l.length ≠ G.F.m / d) (w : World) (hg0 : GFok w gb G) :
  Calls Try.prog 39 #[.pointer (some ⟨gb, 0, none⟩), .slice A1 l.length c1, .int .i64 (d : Int)] w fun e w' => e = .returned (.int .i64 9) ∧ Below w.heap.size w w' := by
 have hi := tower_isDegree.calls gb G (d : Int) true w hg0 (isDegree_yes hd1 hdm);obtain ⟨n, hn⟩ : ∃ n, n = G.F.m / d := ⟨_, rfl⟩;have he := fun w2 (hg2 : GFok w2 gb G) => each_calls gb G d hd1 hdm 0 w2 hg2
 rw [← hn] at he hl;have c1b : ((l.length : Int) != (n : Int)) = true := bne_iff_ne.2 (by omega);have c2b : ¬ l.length = n := hl;go_enter Try.func39, Try.ntmps39
 go_wp2_with (first | (go_at_call 46; refine hi.mono ?_; clear hi; rintro e w2 ⟨rfl, hb2⟩; have he2 := he w2 (hg0.below hb2); clear he) | (go_at_call 48; refine he2.mono ?_; clear he2; rintro e w3 ⟨A3, c3, rfl, hc3, hr3, hb3⟩))
 go_ret
 exact ⟨rfl, hb2.trans (hb3.mono hb2.size)⟩
set_option maxHeartbeats 4000000 in
theorem basis_go (gb : Nat) (G : GFv) (A1 : Option Addr) (c1 : Nat) (l : List Int) (d n : Nat) (hd1 : 1 ≤ d) (hdm : d ∣ G.F.m) (hn : n = G.F.m / d) (hl : l.length = n) (w : World) (hg0 : GFok w gb G) (hr1 : Kd.C (Kd.int .i64) w A1 l.length l) (hc1 : l.length ≤ c1) :
  Calls Try.prog 39 #[.pointer (some ⟨gb, 0, none⟩), .slice A1 l.length c1, .int .i64 (d : Int)] w fun e w' => ((e = .returned (.int .i64 0) ∧ Cw.Inj d n (elL G l)) ∨ (e = .returned (.int .i64 9) ∧ ¬ Cw.Inj d n (elL G l))) ∧ Below w.heap.size w w' := by
 have hm := G.m_le;have hdl := Nat.le_of_dvd G.m_pos hdm;have hn1 : 1 ≤ n := by rw [hn]; exact Nat.div_pos hdl (by omega)
 have hn8 : n ≤ 8 := by rw [hn]; exact Nat.le_trans (Nat.div_le_self _ _) hm
 have hi := tower_isDegree.calls gb G (d : Int) true w hg0 (isDegree_yes hd1 hdm);have he := fun w2 (hg2 : GFok w2 gb G) => each_calls gb G d hd1 hdm 0 w2 hg2
 rw [← hn] at he;have c1b : ((l.length : Int) != (n : Int)) = false := bne_eq_false_iff_eq.2 (by omega);have HN := Q9a.mk hn;have HL := Q9a.mk hl;have HR1 := Q9a.mk hr1;have HC1 := Q9a.mk hc1;have HG := Q9a.mk hg0;have HN1 := Q9a.mk hn1;have HN8 := Q9a.mk hn8;clear hn hr1 hc1 hm hdl hn1 hn8 hg0;go_enter Try.func39, Try.ntmps39
 go_wp2_with (first | (go_at_call 46; refine hi.mono ?_; clear hi; rintro e w2 ⟨rfl, hb2⟩; have HB := Q9a.mk hb2; clear hb2; have he2 := he w2 (HG.out.below HB.out); clear he) | (go_at_call 48; refine he2.mono ?_; clear he2; rintro e w3 ⟨A3, c3, rfl, hc3, hr3, hb3⟩; have nb_ := Q9a.mk (bP HB.out hb3); clear HB; have HB := nb_; clear nb_; rw [eachL_nums] at hr3; have hsy := system_calls gb G d n hd1 hdm HN.out A1 A3 c1 c3 l HL.out _ w3 (HG.out.below HB.out) (Kd.cB HR1.out HB.out) HC1.out hr3 hc3; rw [HL.out] at hsy; clear hr3 hc3 hb3) | (go_at_call 41; refine hsy.mono ?_; clear hsy; rintro e w4 ⟨R, cR, rb, cp, rfl, hM, hb4⟩; have hso := solve_calls gb n R cR G rb cp _ HN1.out HN8.out w3 w4 (HG.out.below HB.out) hb4 hM; clear hM hb4) | (go_at_call 40; refine hso.mono ?_; clear hso; rintro e w5 ⟨v, b, rfl, hb5, hor⟩; have HOR := Q9a.mk hor; have nb_ := Q9a.mk (bP HB.out hb5); clear HB hor hb5; have HB := nb_; clear nb_))
 ·rename_i hb9
  go_ret
  refine ⟨Or.inr ⟨rfl, ?_⟩, HB.out⟩;rcases HOR.out with ⟨h1, h2⟩ | ⟨h1, _⟩
  ·exact bad_inj h2
  rw [h1] at hb9
  cases hb9
 rename_i hb9
 go_ret
 refine ⟨Or.inl ⟨rfl, ?_⟩, HB.out⟩;rcases HOR.out with ⟨h1, _⟩ | ⟨_, x, _, h2⟩
 ·rw [h1] at hb9
  cases hb9
 exact good_inj h2
theorem tower_basis.calls (b_a0 : Nat) (a0 : GFv) (A1 : Option Addr) (c1 : Nat) (l1 : List Int) (a2 : Int) (r : Int) (w : World) (hg0 : GFok w b_a0 a0) (hr1 : Kd.C (Kd.int .i64) w A1 l1.length l1) (hc1 : l1.length ≤ c1) (h : tower_basis.f a0 l1 a2 = some r) :
  Calls Try.prog 39 #[.pointer (some ⟨b_a0, 0, none⟩), .slice A1 l1.length c1, .int .i64 a2] w fun e w' => e = .returned (.int .i64 r) ∧ Below w.heap.size w w' := by
 classical
 unfold tower_basis.f at h
 by_cases hd : Dv a0 a2
 ·rw [if_neg (fun hn => hn hd)] at h;obtain ⟨d, rfl, hd1, hdm⟩ := hd;rw [Int.toNat_natCast] at h;by_cases hl : l1.length = a0.F.m / d
  ·rw [if_neg (fun hn => hn hl)] at h;refine (basis_go b_a0 a0 A1 c1 l1 d _ hd1 hdm rfl hl w hg0 hr1 hc1).mono ?_;rintro e w' ⟨h1, h2⟩;refine ⟨?_, h2⟩;rcases h1 with ⟨h3, h4⟩ | ⟨h3, h4⟩
   ·rw [if_pos h4] at h;rw [h3, ← Option.some.inj h]
   rw [if_neg h4] at h;rw [h3, ← Option.some.inj h]
  rw [if_pos hl] at h;obtain rfl := Option.some.inj h;exact basis_len b_a0 a0 A1 c1 l1 d hd1 hdm hl w hg0
 rw [if_pos hd] at h;obtain rfl := Option.some.inj h;exact basis_no b_a0 a0 A1 c1 l1 a2 hd w hg0
def Eqs (G : GFv) (d n : Nat) (l : List Int) (ρ c : Nat → Cw.El G.F) : Prop := ∀ i, i < n → Cw.sm n (fun j => Cw.fr (d * i) (elL G l j) * c j) = ρ i
open Classical in
def solX (G : GFv) (d n : Nat) (l : List Int) (ρ : Nat → Cw.El G.F) : Nat → Cw.El G.F := if h : ∃ c, Eqs G d n l ρ c then Classical.choose h else fun _ => 0
theorem eqs_unique {G : GFv} {d n : Nat} {l : List Int} {ρ c c' : Nat → Cw.El G.F} (hI : Cw.Inj d n (elL G l)) (h : Eqs G d n l ρ c) (h' : Eqs G d n l ρ c') : ∀ j, j < n → c j = c' j := by
 intro j hj;refine Cw.sub_eq_zero (hI (fun j => c j + -c' j) (fun i hi => ?_) j hj);rw [Cw.sm_congr (g := fun j => Cw.fr (d * i) (elL G l j) * c j + -(Cw.fr (d * i) (elL G l j) * c' j)) (fun j _ => by rw [Cw.mul_add, Cw.mul_neg]), Cw.sm_add, Cw.sm_neg, h i hi, h' i hi, Cw.add_neg]
theorem numsL_congr {G : GFv} {n : Nat} {x y : Nat → Cw.El G.F} (h : ∀ i, i < n → x i = y i) : numsL G n x = numsL G n y := by
 unfold numsL
 refine List.map_congr_left (fun i hi => ?_);rw [h i (List.mem_range.1 hi)]
theorem solX_eqs {G : GFv} {d n : Nat} {l : List Int} {ρ c : Nat → Cw.El G.F} (h : Eqs G d n l ρ c) : Eqs G d n l ρ (solX G d n l ρ) := by
 have hex : ∃ c, Eqs G d n l ρ c := ⟨c, h⟩;unfold solX
 rw [dif_pos hex];exact Classical.choose_spec hex
theorem good_solX {G : GFv} {d n : Nat} {l : List Int} {ρ x : Nat → Cw.El G.F} (h : Cw.Good n (sysM G d n l ρ) x) : numsL G n x = numsL G n (solX G d n l ρ) := by
 have h1 : Eqs G d n l ρ x := good_sol h;exact numsL_congr (eqs_unique (good_inj h) h1 (solX_eqs h1))
open Classical in
def tower_Coordinates.f (G : GFv) (l : List Int) (d x : Int) : Option (List Int × Int) :=
 (tower_basis.f G l d).bind fun e => if e ≠ 0 then some ([], e) else some (numsL G (G.F.m / d.toNat) (solX G d.toNat (G.F.m / d.toNat) l (fun i => Cw.fr (d.toNat * i) (G.el x))), 0)
theorem basis_zero {G : GFv} {l : List Int} {d : Int} (h : tower_basis.f G l d = some 0) : ∃ d' : Nat, d = (d' : Int) ∧ 1 ≤ d' ∧ d' ∣ G.F.m ∧ l.length = G.F.m / d' ∧ Cw.Inj d' (G.F.m / d') (elL G l) := by
 classical
 unfold tower_basis.f at h
 by_cases hd : Dv G d
 ·rw [if_neg (fun hn => hn hd)] at h;obtain ⟨d, rfl, hd1, hdm⟩ := hd;rw [Int.toNat_natCast] at h;by_cases hl : l.length = G.F.m / d
  ·rw [if_neg (fun hn => hn hl)] at h;by_cases hI : Cw.Inj d (G.F.m / d) (elL G l)
   ·exact ⟨d, rfl, hd1, hdm, hl, hI⟩
   rw [if_neg hI] at h;have := Option.some.inj h;omega
  rw [if_pos hl] at h;have := Option.some.inj h;omega
 rw [if_pos hd] at h;have := Option.some.inj h;omega
set_option maxHeartbeats 4000000 in
theorem coord_no (gb : Nat) (G : GFv) (A1 : Option Addr) (c1 : Nat) (l : List Int) (d x e0 : Int) (he : tower_basis.f G l d = some e0) (hne : e0 ≠ 0) (w : World) (hg0 : GFok w gb G) (hr1 : Kd.C (Kd.int .i64) w A1 l.length l) (hc1 : l.length ≤ c1) :
  Calls Try.prog 33 #[.pointer (some ⟨gb, 0, none⟩), .slice A1 l.length c1, .int .i64 d, .int .i64 x] w fun e w' => e = .returned (.tuple #[.slice none 0 0, .int .i64 e0]) ∧ Below w.heap.size w w' := by
 have hi := tower_basis.calls gb G A1 c1 l d e0 w hg0 hr1 hc1 he;have cne : (e0 != 0) = true := bne_iff_ne.2 hne;clear hr1 hc1 he;go_enter Try.func33, Try.ntmps33
 go_wp2_with (first | (go_at_call 39; refine hi.mono ?_; clear hi; rintro e w2 ⟨rfl, hb2⟩))
 go_ret2
 exact ⟨rfl, hb2⟩
set_option maxHeartbeats 4000000 in
theorem coord_go (gb : Nat) (G : GFv) (A1 : Option Addr) (c1 : Nat) (l : List Int) (d n : Nat) (x : Int) (hd1 : 1 ≤ d) (hdm : d ∣ G.F.m) (hn : n = G.F.m / d) (hl : l.length = n) (hI : Cw.Inj d n (elL G l)) (he : tower_basis.f G l (d : Int) = some 0) (w : World) (hg0 : GFok w gb G) (hr1 : Kd.C (Kd.int .i64) w A1 l.length l) (hc1 : l.length ≤ c1) :
  Calls Try.prog 33 #[.pointer (some ⟨gb, 0, none⟩), .slice A1 l.length c1, .int .i64 (d : Int), .int .i64 x] w fun e w' => ∃ v, e = .returned (.tuple #[v, .int .i64 0]) ∧ Kd.R (Kd.int .i64) 3 w' w.heap.size (fun _ => True) v (numsL G n (solX G d n l (fun i => Cw.fr (d * i) (G.el x)))) ∧ Below w.heap.size w w' := by
 have hm := G.m_le;have hdl := Nat.le_of_dvd G.m_pos hdm;have hn1 : 1 ≤ n := by rw [hn]; exact Nat.div_pos hdl (by omega)
 have hn8 : n ≤ 8 := by rw [hn]; exact Nat.le_trans (Nat.div_le_self _ _) hm
 have hi := tower_basis.calls gb G A1 c1 l (d : Int) 0 w hg0 hr1 hc1 he;have hec := fun w2 (hg2 : GFok w2 gb G) => each_calls gb G d hd1 hdm x w2 hg2
 rw [← hn] at hec;have HN := Q9a.mk hn;have HL := Q9a.mk hl;have HR1 := Q9a.mk hr1;have HC1 := Q9a.mk hc1;have HG := Q9a.mk hg0;have HN1 := Q9a.mk hn1;have HN8 := Q9a.mk hn8;have HI := Q9a.mk hI;clear hn hr1 hc1 hm hdl hn1 hn8 hg0 hI he;go_enter Try.func33, Try.ntmps33
 go_wp2_with (first | (go_at_call 39; rw [← HL.out]; refine hi.mono ?_; clear hi; rintro e w2 ⟨rfl, hb2⟩; have HB := Q9a.mk hb2; clear hb2; have he2 := hec w2 (HG.out.below HB.out); clear hec) | (go_at_call 48; refine he2.mono ?_; clear he2; rintro e w3 ⟨A3, c3, rfl, hc3, hr3, hb3⟩; have nb_ := Q9a.mk (bP HB.out hb3); clear HB; have HB := nb_; clear nb_; rw [eachL_nums] at hr3; have hsy := system_calls gb G d n hd1 hdm HN.out A1 A3 c1 c3 l HL.out _ w3 (HG.out.below HB.out) (Kd.cB HR1.out HB.out) HC1.out hr3 hc3; rw [HL.out] at hsy; clear hr3 hc3 hb3) | (go_at_call 41; refine hsy.mono ?_; clear hsy; rintro e w4 ⟨R, cR, rb, cp, rfl, hM, hb4⟩; have hso := solve_calls gb n R cR G rb cp _ HN1.out HN8.out w3 w4 (HG.out.below HB.out) hb4 hM; clear hM hb4) | (go_at_call 40; refine hso.mono ?_; clear hso; rintro e w5 ⟨v, b, rfl, hb5, hor⟩; have HOR := Q9a.mk hor; have nb_ := Q9a.mk (bP HB.out hb5); have HLE := Q9a.mk (bZ HB.out); clear HB hor hb5; have HB := nb_; clear nb_))
 go_ret2
 rcases HOR.out with ⟨_, h2⟩ | ⟨_, y, h1, h2⟩
 ·exact absurd HI.out (bad_inj h2)
 refine ⟨v, rfl, ?_, HB.out⟩;rw [← good_solX h2];exact Kd.rL h1 HLE.out
theorem tower_Coordinates.calls (b_a0 : Nat) (a0 : GFv) (A1 : Option Addr) (c1 : Nat) (l1 : List Int) (a2 : Int) (a3 : Int) (r1 : List Int) (r2 : Int) (w : World) (hg0 : GFok w b_a0 a0) (hr1 : Kd.C (Kd.int .i64) w A1 l1.length l1) (hc1 : l1.length ≤ c1) (h : tower_Coordinates.f a0 l1 a2 a3 = some (r1, r2)) :
  Calls Try.prog 33 #[.pointer (some ⟨b_a0, 0, none⟩), .slice A1 l1.length c1, .int .i64 a2, .int .i64 a3] w fun e w' => ∃ v0_ : Value, e = .returned (.tuple #[v0_, .int .i64 r2]) ∧ Kd.R (Kd.int .i64) 3 w' w.heap.size (fun _ => True) v0_ r1 ∧ Below w.heap.size w w' := by
 unfold tower_Coordinates.f at h
 obtain ⟨e, he, h⟩ := Option.bind_eq_some_iff.1 h;by_cases h0 : e = 0
 ·subst h0;rw [if_neg (fun hn => hn rfl)] at h;obtain ⟨d, rfl, hd1, hdm, hl, hI⟩ := basis_zero he;rw [Int.toNat_natCast] at h;have h' := Option.some.inj h;injection h' with e1 e2
  subst e1;subst e2;exact coord_go b_a0 a0 A1 c1 l1 d _ a3 hd1 hdm rfl hl hI he w hg0 hr1 hc1
 rw [if_pos h0] at h;have h' := Option.some.inj h;injection h' with e1 e2
 subst e1;subst e2;exact (coord_no b_a0 a0 A1 c1 l1 a2 a3 e he h0 w hg0 hr1 hc1).mono fun e w' ⟨h1, h2⟩ => ⟨_, h1, Kd.R_nil _ _ _ _ _, h2⟩
end
end Go.Proofs.Ytlbddjojhcgpiaa.Hand
end
-- BC2
section
namespace Go.Proofs.Ytlbddjojhcgpiaa.P
noncomputable section
open Go.RowKit Go.Proofs.Ytlbddjojhcgpiaa.Hand Go.Proofs.YtlbddjojhcgpiaaW.PrintWords Go.Proofs.YtlbddjojhcgpiaaW.PrintLast Go.Proofs.YtlbddjojhcgpiaaW.PrintMore
set_option linter.unusedVariables false
set_option linter.unusedSimpArgs false
mutual
def l7TowerCoordinates.j0 : Nat → List Int → Int → Int → List Int → Bool → Int → Int → List Int → Option (Bool)
 | 0, _, _, _, _, _, _, _, _ => none
 | k + 1, x1, x8, x9, x10, x70, x122000, x122001, x122002 => if x70 = true then (some false) else (l7TowerCoordinates.l0 k x1 x8 x9 x10 x10 (x10.length : Int) 0 x122000 x122001 x122002)
def l7TowerCoordinates.l0 : Nat → List Int → Int → Int → List Int → List Int → Int → Int → Int → Int → List Int → Option (Bool)
 | 0, _, _, _, _, _, _, _, _, _, _ => none
 | k + 1, x1, x8, x9, x10, x71, x72, x73, x122000, x122001, x122002 => if x73 < x72 then (if 0 ≤ x73 then (if x73 < (x71.length : Int) then ((r4Is.f k x122000 x122001 x122002 (rd x71 x73)).bind fun t135 => (if t135 = true then ((r7In.f k x122000 x122001 x122002 (rd x71 x73) x8).bind fun t136 => (if t136 = true then (l7TowerCoordinates.l0 k x1 x8 x9 x10 x71 x72 (wrap64 (x73 + 1)) x122000 x122001 x122002) else (some false))) else (some false))) else (none)) else (none)) else ((r4Dot.f k x122000 x122001 x122002 x10 x1).bind fun t132 => ((r4In.f k x122000 x122001 x122002 x9).bind fun t133 => (some (t132 == t133))))
end
def l7TowerCoordinates.f (k : Nat) (a0_0 : Int) (a0_1 : Int) (l0_2 : List Int) (l1 : List Int) (a2_0 : Int) (a2_1 : Int) : Option (Bool) := (l7alive.f k).bind fun t123 => (if t123 = true then ((l7made.f a0_0 a0_1 l0_2).bind fun t124 => (optE t124 (some true) (fun q125 => (if (l1.length : Int) > 12 then (some true) else ((tower_Coordinates.f q125 l1 a2_0 a2_1).bind fun bt126 => ((r7Divides.f a0_0 a0_1 l0_2 a2_0).bind fun t130 => (if t130 = true then ((r7IsBasis.f k a0_0 a0_1 l0_2 l1 a2_0).bind fun t131 => (if t131 = true then (if bt126.2 = 0 then (l7TowerCoordinates.j0 k l1 a2_0 a2_1 bt126.1 ((bt126.1.length : Int) != (l1.length : Int)) a0_0 a0_1 l0_2) else (l7TowerCoordinates.j0 k l1 a2_0 a2_1 bt126.1 true a0_0 a0_1 l0_2)) else (if bt126.2 = 9 then (some ((bt126.1.length : Int) == 0)) else (some false)))) else (if bt126.2 = 6 then (some ((bt126.1.length : Int) == 0)) else (some false))))))))) else (some false))
def l7TowerCoordinates.T20 : Bool × List (List Nat × List Nat) := (true, [([], []), ([], []), ([], []), ([0, 1, 2], [0, 1, 2]), ([], []), ([], []), ([4, 5, 3], [4, 5]), ([3, 6], [3, 6]), ([7, 6, 0, 1, 2, 3, 4, 5, 6, 7], [7])])
def l7TowerCoordinates.B20 : List Nat := [0, 0, 0, 7, 0, 0, 63, 127, 255]
theorem l7TowerCoordinates.tab20 : rtab .any (opsOf Try.f9 20) = l7TowerCoordinates.T20 := by kernel_rfl
theorem l7TowerCoordinates.bits20 : waitsOk l7TowerCoordinates.T20.2 l7TowerCoordinates.B20 = true := by kernel_rfl
theorem l7TowerCoordinates.calls (k : Nat) (a0_0 : Int) (a0_1 : Int) (A0_2 : Option Addr) (c0_2 : Nat) (l0_2 : List Int) (A1 : Option Addr) (c1 : Nat) (l1 : List Int) (a2_0 : Int) (a2_1 : Int) (r : Bool) (w : World) (hr0_2 : Kd.C (Kd.int .i64) w A0_2 l0_2.length l0_2) (hc0_2 : l0_2.length ≤ c0_2) (hr1 : Kd.C (Kd.int .i64) w A1 l1.length l1) (hc1 : l1.length ≤ c1) (h : l7TowerCoordinates.f k a0_0 a0_1 l0_2 l1 a2_0 a2_1 = some r) :
  Calls Try.prog 9 #[.agg #[.int .i64 a0_0, .int .i64 a0_1, .slice A0_2 l0_2.length c0_2], .slice A1 l1.length c1, .agg #[.int .i64 a2_0, .int .i64 a2_1]] w fun e w' => e = .returned (.bool r) ∧ Below w.heap.size w w' := by
 have hu24 := Try.underlying24;have hu38 := Try.underlying38;have HR0_2 := Q9a.mk hr0_2;have HC0_2 := Q9a.mk hc0_2;clear hr0_2 hc0_2;have HR1 := Q9a.mk hr1;have HC1 := Q9a.mk hc1;clear hr1 hc1;have HB := Q9a.mk (Below.refl w.heap.size w);have H : ((l7alive.f k).bind fun t123 => (if t123 = true then ((l7made.f a0_0 a0_1 l0_2).bind fun t124 => (optE t124 (some true) (fun q125 => (if (l1.length : Int) > 12 then (some true) else ((tower_Coordinates.f q125 l1 a2_0 a2_1).bind fun bt126 => ((r7Divides.f a0_0 a0_1 l0_2 a2_0).bind fun t130 => (if t130 = true then ((r7IsBasis.f k a0_0 a0_1 l0_2 l1 a2_0).bind fun t131 => (if t131 = true then (if bt126.2 = 0 then (l7TowerCoordinates.j0 k l1 a2_0 a2_1 bt126.1 ((bt126.1.length : Int) != (l1.length : Int)) a0_0 a0_1 l0_2) else (l7TowerCoordinates.j0 k l1 a2_0 a2_1 bt126.1 true a0_0 a0_1 l0_2)) else (if bt126.2 = 9 then (some ((bt126.1.length : Int) == 0)) else (some false)))) else (if bt126.2 = 6 then (some ((bt126.1.length : Int) == 0)) else (some false))))))))) else (some false))) = some r := h;clear h;replace H := Option.bind_eq_some_iff.mp H;obtain ⟨t123, A40, H⟩ := H;replace H : (if t123 = true then ((l7made.f a0_0 a0_1 l0_2).bind fun t124 => (optE t124 (some true) (fun q125 => (if (l1.length : Int) > 12 then (some true) else ((tower_Coordinates.f q125 l1 a2_0 a2_1).bind fun bt126 => ((r7Divides.f a0_0 a0_1 l0_2 a2_0).bind fun t130 => (if t130 = true then ((r7IsBasis.f k a0_0 a0_1 l0_2 l1 a2_0).bind fun t131 => (if t131 = true then (if bt126.2 = 0 then (l7TowerCoordinates.j0 k l1 a2_0 a2_1 bt126.1 ((bt126.1.length : Int) != (l1.length : Int)) a0_0 a0_1 l0_2) else (l7TowerCoordinates.j0 k l1 a2_0 a2_1 bt126.1 true a0_0 a0_1 l0_2)) else (if bt126.2 = 9 then (some ((bt126.1.length : Int) == 0)) else (some false)))) else (if bt126.2 = 6 then (some ((bt126.1.length : Int) == 0)) else (some false))))))))) else (some false)) = some r := H;have A4 := Q9a.mk A40;clear A40;by_cases c5 : t123 = true
 ·subst c5;have H1 : ((l7made.f a0_0 a0_1 l0_2).bind fun t124 => (optE t124 (some true) (fun q125 => (if (l1.length : Int) > 12 then (some true) else ((tower_Coordinates.f q125 l1 a2_0 a2_1).bind fun bt126 => ((r7Divides.f a0_0 a0_1 l0_2 a2_0).bind fun t130 => (if t130 = true then ((r7IsBasis.f k a0_0 a0_1 l0_2 l1 a2_0).bind fun t131 => (if t131 = true then (if bt126.2 = 0 then (l7TowerCoordinates.j0 k l1 a2_0 a2_1 bt126.1 ((bt126.1.length : Int) != (l1.length : Int)) a0_0 a0_1 l0_2) else (l7TowerCoordinates.j0 k l1 a2_0 a2_1 bt126.1 true a0_0 a0_1 l0_2)) else (if bt126.2 = 9 then (some ((bt126.1.length : Int) == 0)) else (some false)))) else (if bt126.2 = 6 then (some ((bt126.1.length : Int) == 0)) else (some false))))))))) = some r := by rw [if_pos rfl] at H; exact H
  clear H;have H := H1;clear H1;replace H := Option.bind_eq_some_iff.mp H;obtain ⟨t124, A60, H⟩ := H;replace H : (optE t124 (some true) (fun q125 => (if (l1.length : Int) > 12 then (some true) else ((tower_Coordinates.f q125 l1 a2_0 a2_1).bind fun bt126 => ((r7Divides.f a0_0 a0_1 l0_2 a2_0).bind fun t130 => (if t130 = true then ((r7IsBasis.f k a0_0 a0_1 l0_2 l1 a2_0).bind fun t131 => (if t131 = true then (if bt126.2 = 0 then (l7TowerCoordinates.j0 k l1 a2_0 a2_1 bt126.1 ((bt126.1.length : Int) != (l1.length : Int)) a0_0 a0_1 l0_2) else (l7TowerCoordinates.j0 k l1 a2_0 a2_1 bt126.1 true a0_0 a0_1 l0_2)) else (if bt126.2 = 9 then (some ((bt126.1.length : Int) == 0)) else (some false)))) else (if bt126.2 = 6 then (some ((bt126.1.length : Int) == 0)) else (some false)))))))) = some r := H;have A6 := Q9a.mk A60;clear A60;rcases t124 with _ | q125
  ·have H1 : (some true) = some r := H;clear H;have H := H1;clear H1;obtain rfl := Option.some.inj H;go_enter Try.func9, Try.ntmps9
   try go_wp2_with (first | ((with_reducible refine gD (N := 3) rfl ?_); (try (refine gG (by rfl) ?_; dsimp only)); refine bE ?hg (N := 3) ?hd (cs := #[.int .i64 a0_0, .int .i64 a0_1, .slice A0_2 l0_2.length c0_2]) (t := 24) ?hr ?_; (case hd => rfl); (case hg => rfl); (case hr => first | (go_simp; done) | (go_simp; rfl)); intro gb121 hg w7 hbox hb; have n0_ := Q9a.mk (bP (bI HB.out) hb); have n1_ := Q9a.mk (hbox); have n2_ := Q9a.mk ((by rw [hg]; exact (bZ (bI HB.out)) : w.heap.size ≤ gb121)); have n3_ := n2_; clear HB; have HB := n0_; have BK121 := n1_; have GW121 := n2_; have GE121 := n3_; clear n0_ n1_ n2_ n3_; clear hb hbox hg) | ((with_reducible refine gD (N := 5) rfl ?_); (try (refine gG (by rfl) ?_; dsimp only)); refine bE ?hg (N := 5) ?hd (cs := #[.int .i64 a2_0, .int .i64 a2_1]) (t := 38) ?hr ?_; (case hd => rfl); (case hg => rfl); (case hr => first | (go_simp; done) | (go_simp; rfl)); intro gb122 hg w8 hbox hb; have n0_ := Q9a.mk (kB (g := gb121) (o := .cells #[.int .i64 a0_0, .int .i64 a0_1, .slice A0_2 l0_2.length c0_2] 24 (0, 0)) (kI BK121.out) hb); have n1_ := Q9a.mk (bP (bJ HB.out GE121.out) hb); have n2_ := Q9a.mk (hbox); have n3_ := Q9a.mk ((by rw [hg]; exact (bZ (bJ HB.out GE121.out)) : w.heap.size ≤ gb122)); have n4_ := n3_; have n5_ := Q9a.mk ((by rw [hg]; exact Nat.ne_of_lt (blk_lt (g := gb121) (o := .cells #[.int .i64 a0_0, .int .i64 a0_1, .slice A0_2 l0_2.length c0_2] 24 (0, 0)) (kI BK121.out)) : gb121 ≠ gb122)); have n6_ := Q9a.mk ((by rw [hg]; exact Nat.ne_of_gt (blk_lt (g := gb121) (o := .cells #[.int .i64 a0_0, .int .i64 a0_1, .slice A0_2 l0_2.length c0_2] 24 (0, 0)) (kI BK121.out)) : gb122 ≠ gb121)); clear BK121; clear HB; have BK121 := n0_; have HB := n1_; have BK122 := n2_; have GW122 := n3_; have GE122 := n4_; have NB121_122 := n5_; have NB122_121 := n6_; clear n0_ n1_ n2_ n3_ n4_ n5_ n6_; clear hb hbox hg) | ((with_reducible refine gC (f := 10) rfl ?_); refine gL (some 14) rfl rfl Try.func10 (by kernel_rfl) rfl #[] rfl (by (try simp only [sm1, sm2, sm3]); first | done | rfl | (simp only [sm4, sm5]; rfl)) ?_; (with_reducible refine (l7alive.calls k  true _ A4.out).mono ?_); rintro e w9 ⟨rfl, hb⟩; refine ⟨_, rfl, ?_⟩; have n0_ := Q9a.mk (kB (g := gb121) (o := .cells #[.int .i64 a0_0, .int .i64 a0_1, .slice A0_2 l0_2.length c0_2] 24 (0, 0)) (kI BK121.out) hb); have n1_ := Q9a.mk (kB (g := gb122) (o := .cells #[.int .i64 a2_0, .int .i64 a2_1] 38 (0, 0)) (kI BK122.out) hb); have n2_ := Q9a.mk (bP (by repeat (first | (with_reducible first | exact HB.out | apply bA | apply bN | apply bD | refine bS ?_ GE121.out | refine bS ?_ GE122.out) | exact HB.out)) hb); clear BK121; clear BK122; clear HB; have BK121 := n0_; have BK122 := n1_; have HB := n2_; clear n0_ n1_ n2_; have hnb10 := NB121_122.out; have hnc10 := NB122_121.out; have hcz11_0 : w9.cell? ⟨gb121, 0, none⟩ = some (.int .i64 a0_0) := (kC BK121.out 0).trans rfl; have hcz11_1 : w9.cell? ⟨gb121, 1, none⟩ = some (.int .i64 a0_1) := (kC BK121.out 1).trans rfl; have hcz11_2 : w9.cell? ⟨gb121, 2, none⟩ = some (.slice A0_2 l0_2.length c0_2) := (kC BK121.out 2).trans rfl; have hfz11_0 := kF BK121.out 0; have hfz11_1 := kF BK121.out 1; have hfz11_2 := kF BK121.out 2) | ((with_reducible refine gC (f := 11) rfl ?_); refine gL (some 17) rfl rfl Try.func11 (by kernel_rfl) rfl #[.agg #[.int .i64 a0_0, .int .i64 a0_1, .slice A0_2 l0_2.length c0_2]] rfl (by (try simp only [sm1, sm2, sm3]); first | done | rfl | (simp only [sm4, sm5]; rfl)) ?_; (with_reducible refine (l7made.calls a0_0 a0_1 _ _ l0_2 none _ ?side1 ?side2 A6.out).mono ?_); (case side1 => exact cI HR0_2.out HB.out); (case side2 => exact HC0_2.out); rintro e w12 ⟨b_, rfl, hb, hgo⟩; refine ⟨_, rfl, ?_⟩; have n0_ := Q9a.mk (kB (g := gb121) (o := .cells #[.int .i64 a0_0, .int .i64 a0_1, .slice A0_2 l0_2.length c0_2] 24 (0, 0)) (kI BK121.out) hb); have n1_ := Q9a.mk (kB (g := gb122) (o := .cells #[.int .i64 a2_0, .int .i64 a2_1] 38 (0, 0)) (kI BK122.out) hb); have n2_ := Q9a.mk (bP (by repeat (first | (with_reducible first | exact HB.out | apply bA | apply bN | apply bD | refine bS ?_ GE121.out | refine bS ?_ GE122.out) | exact HB.out)) hb); clear BK121; clear BK122; clear HB; have BK121 := n0_; have BK122 := n1_; have HB := n2_; clear n0_ n1_ n2_; (try simp only [gfW_none, gfW_some])))
   have n0_ := Q9a.mk (kD BK121.out);have n1_ := Q9a.mk (kD BK122.out);have n2_ := Q9a.mk (bD HB.out);clear BK121;clear BK122;clear HB;have BK121 := n0_;have BK122 := n1_;have HB := n2_;clear n0_ n1_ n2_;refine start_ (n := 6) (S := fun w' => w'.cell? ⟨gb122, 0, none⟩ = some (.int .i64 a2_0) ∧ w'.cell? ⟨gb122, 1, none⟩ = some (.int .i64 a2_1)) (ds := []) #[fB,fB,fB,fB,fB,fB] (by kernel_rfl) rfl rfl ⟨(kC BK122.out 0).trans rfl, (kC BK122.out 1).trans rfl⟩ (fun hHeld => ?_);generalize w12.drew = w13 at BK121 BK122 HB hHeld ⊢;refine pQ 0 18 rfl (by kernel_rfl) ?_;refine pQ 2 20 rfl (by kernel_rfl) ?_;refine tQ 1 19 rfl (by kernel_rfl) hHeld ?_;refine pQ 4 8 rfl (by kernel_rfl) ?_;refine tQ 3 21 rfl (by kernel_rfl) hHeld ?_;refine pQ 5 9 rfl (by kernel_rfl) ?_;refine done_ (by kernel_rfl) ?_;try go_wp2
   go_ret
   exact ⟨by first | rfl | (simp [*, eN, eS] <;> rfl), by repeat (first | (with_reducible first | exact HB.out | apply bA | apply bN | apply bD | refine bS ?_ GE121.out | refine bS ?_ GE122.out) | exact HB.out)⟩
  have H1 : (if (l1.length : Int) > 12 then (some true) else ((tower_Coordinates.f q125 l1 a2_0 a2_1).bind fun bt126 => ((r7Divides.f a0_0 a0_1 l0_2 a2_0).bind fun t130 => (if t130 = true then ((r7IsBasis.f k a0_0 a0_1 l0_2 l1 a2_0).bind fun t131 => (if t131 = true then (if bt126.2 = 0 then (l7TowerCoordinates.j0 k l1 a2_0 a2_1 bt126.1 ((bt126.1.length : Int) != (l1.length : Int)) a0_0 a0_1 l0_2) else (l7TowerCoordinates.j0 k l1 a2_0 a2_1 bt126.1 true a0_0 a0_1 l0_2)) else (if bt126.2 = 9 then (some ((bt126.1.length : Int) == 0)) else (some false)))) else (if bt126.2 = 6 then (some ((bt126.1.length : Int) == 0)) else (some false)))))) = some r := H;clear H;have H := H1;clear H1;by_cases c14 : (l1.length : Int) > 12
  ·rw [if_pos c14] at H;have c14b0 : decide (12 < (l1.length : Int)) = true := decide_eq_true c14;have c14b1 : decide (12 < l1.length) = true := decide_eq_true (by omega);clear c14;obtain rfl := Option.some.inj H;go_enter Try.func9, Try.ntmps9
   try go_wp2_with (first | ((with_reducible refine gD (N := 3) rfl ?_); (try (refine gG (by rfl) ?_; dsimp only)); refine bE ?hg (N := 3) ?hd (cs := #[.int .i64 a0_0, .int .i64 a0_1, .slice A0_2 l0_2.length c0_2]) (t := 24) ?hr ?_; (case hd => rfl); (case hg => rfl); (case hr => first | (go_simp; done) | (go_simp; rfl)); intro gb121 hg w15 hbox hb; have n0_ := Q9a.mk (bP (bI HB.out) hb); have n1_ := Q9a.mk (hbox); have n2_ := Q9a.mk ((by rw [hg]; exact (bZ (bI HB.out)) : w.heap.size ≤ gb121)); have n3_ := n2_; clear HB; have HB := n0_; have BK121 := n1_; have GW121 := n2_; have GE121 := n3_; clear n0_ n1_ n2_ n3_; clear hb hbox hg) | ((with_reducible refine gD (N := 5) rfl ?_); (try (refine gG (by rfl) ?_; dsimp only)); refine bE ?hg (N := 5) ?hd (cs := #[.int .i64 a2_0, .int .i64 a2_1]) (t := 38) ?hr ?_; (case hd => rfl); (case hg => rfl); (case hr => first | (go_simp; done) | (go_simp; rfl)); intro gb122 hg w16 hbox hb; have n0_ := Q9a.mk (kB (g := gb121) (o := .cells #[.int .i64 a0_0, .int .i64 a0_1, .slice A0_2 l0_2.length c0_2] 24 (0, 0)) (kI BK121.out) hb); have n1_ := Q9a.mk (bP (bJ HB.out GE121.out) hb); have n2_ := Q9a.mk (hbox); have n3_ := Q9a.mk ((by rw [hg]; exact (bZ (bJ HB.out GE121.out)) : w.heap.size ≤ gb122)); have n4_ := n3_; have n5_ := Q9a.mk ((by rw [hg]; exact Nat.ne_of_lt (blk_lt (g := gb121) (o := .cells #[.int .i64 a0_0, .int .i64 a0_1, .slice A0_2 l0_2.length c0_2] 24 (0, 0)) (kI BK121.out)) : gb121 ≠ gb122)); have n6_ := Q9a.mk ((by rw [hg]; exact Nat.ne_of_gt (blk_lt (g := gb121) (o := .cells #[.int .i64 a0_0, .int .i64 a0_1, .slice A0_2 l0_2.length c0_2] 24 (0, 0)) (kI BK121.out)) : gb122 ≠ gb121)); clear BK121; clear HB; have BK121 := n0_; have HB := n1_; have BK122 := n2_; have GW122 := n3_; have GE122 := n4_; have NB121_122 := n5_; have NB122_121 := n6_; clear n0_ n1_ n2_ n3_ n4_ n5_ n6_; clear hb hbox hg) | ((with_reducible refine gC (f := 10) rfl ?_); refine gL (some 14) rfl rfl Try.func10 (by kernel_rfl) rfl #[] rfl (by (try simp only [sm1, sm2, sm3]); first | done | rfl | (simp only [sm4, sm5]; rfl)) ?_; (with_reducible refine (l7alive.calls k  true _ A4.out).mono ?_); rintro e w17 ⟨rfl, hb⟩; refine ⟨_, rfl, ?_⟩; have n0_ := Q9a.mk (kB (g := gb121) (o := .cells #[.int .i64 a0_0, .int .i64 a0_1, .slice A0_2 l0_2.length c0_2] 24 (0, 0)) (kI BK121.out) hb); have n1_ := Q9a.mk (kB (g := gb122) (o := .cells #[.int .i64 a2_0, .int .i64 a2_1] 38 (0, 0)) (kI BK122.out) hb); have n2_ := Q9a.mk (bP (by repeat (first | (with_reducible first | exact HB.out | apply bA | apply bN | apply bD | refine bS ?_ GE121.out | refine bS ?_ GE122.out) | exact HB.out)) hb); clear BK121; clear BK122; clear HB; have BK121 := n0_; have BK122 := n1_; have HB := n2_; clear n0_ n1_ n2_; have hnb18 := NB121_122.out; have hnc18 := NB122_121.out; have hcz19_0 : w17.cell? ⟨gb121, 0, none⟩ = some (.int .i64 a0_0) := (kC BK121.out 0).trans rfl; have hcz19_1 : w17.cell? ⟨gb121, 1, none⟩ = some (.int .i64 a0_1) := (kC BK121.out 1).trans rfl; have hcz19_2 : w17.cell? ⟨gb121, 2, none⟩ = some (.slice A0_2 l0_2.length c0_2) := (kC BK121.out 2).trans rfl; have hfz19_0 := kF BK121.out 0; have hfz19_1 := kF BK121.out 1; have hfz19_2 := kF BK121.out 2) | ((with_reducible refine gC (f := 11) rfl ?_); refine gL (some 17) rfl rfl Try.func11 (by kernel_rfl) rfl #[.agg #[.int .i64 a0_0, .int .i64 a0_1, .slice A0_2 l0_2.length c0_2]] rfl (by (try simp only [sm1, sm2, sm3]); first | done | rfl | (simp only [sm4, sm5]; rfl)) ?_; (with_reducible refine (l7made.calls a0_0 a0_1 _ _ l0_2 (some q125) _ ?side1 ?side2 A6.out).mono ?_); (case side1 => exact cI HR0_2.out HB.out); (case side2 => exact HC0_2.out); rintro e w20 ⟨b_q125, rfl, hb, hgo⟩; refine ⟨_, rfl, ?_⟩; have n0_ := Q9a.mk (kB (g := gb121) (o := .cells #[.int .i64 a0_0, .int .i64 a0_1, .slice A0_2 l0_2.length c0_2] 24 (0, 0)) (kI BK121.out) hb); have n1_ := Q9a.mk (kB (g := gb122) (o := .cells #[.int .i64 a2_0, .int .i64 a2_1] 38 (0, 0)) (kI BK122.out) hb); have n2_ := Q9a.mk (bP (by repeat (first | (with_reducible first | exact HB.out | apply bA | apply bN | apply bD | refine bS ?_ GE121.out | refine bS ?_ GE122.out) | exact HB.out)) hb); clear BK121; clear BK122; clear HB; have BK121 := n0_; have BK122 := n1_; have HB := n2_; clear n0_ n1_ n2_; (try simp only [gfW_none, gfW_some]); have HBZ := HB; have HRn_ := Q9a.mk (Kd.cB HR0_2.out HB.out); clear HR0_2; have HR0_2 := HRn_; clear HRn_; have HRn_ := Q9a.mk (Kd.cB HR1.out HB.out); clear HR1; have HR1 := HRn_; clear HRn_; clear HB; obtain ⟨wz, rfl⟩ : ∃ z_ : World, z_ = w := ⟨_, rfl⟩; obtain ⟨w, rfl⟩ : ∃ z_ : World, z_ = w20 := ⟨_, rfl⟩; have HB := Q9a.mk (Below.refl w.heap.size w); have HG_q125 := Q9a.mk (hgo : GFok w b_q125 q125); clear hgo))
   have n0_ := Q9a.mk (kD BK121.out);have n1_ := Q9a.mk (kD BK122.out);have n2_ := Q9a.mk (bD HB.out);clear BK121;clear BK122;clear HB;have BK121 := n0_;have BK122 := n1_;have HB := n2_;clear n0_ n1_ n2_;refine start_ (n := 6) (S := fun w' => w'.cell? ⟨gb122, 0, none⟩ = some (.int .i64 a2_0) ∧ w'.cell? ⟨gb122, 1, none⟩ = some (.int .i64 a2_1)) (ds := []) #[fB,fB,fB,fB,fB,fB] (by kernel_rfl) rfl rfl ⟨(kC BK122.out 0).trans rfl, (kC BK122.out 1).trans rfl⟩ (fun hHeld => ?_);generalize w.drew = w21 at BK121 BK122 HB hHeld ⊢;refine pQ 0 18 rfl (by kernel_rfl) ?_;refine pQ 2 20 rfl (by kernel_rfl) ?_;refine tQ 1 19 rfl (by kernel_rfl) hHeld ?_;refine pQ 4 8 rfl (by kernel_rfl) ?_;refine tQ 3 21 rfl (by kernel_rfl) hHeld ?_;refine pQ 5 9 rfl (by kernel_rfl) ?_;refine done_ (by kernel_rfl) ?_;try go_wp2
   go_ret
   exact ⟨by first | rfl | (simp [*, eN, eS] <;> rfl), belowZ HBZ.out (by repeat (first | (with_reducible first | exact HB.out | apply bA | apply bN | apply bD | refine bS ?_ GE121.out | refine bS ?_ GE122.out) | exact HB.out))⟩
  rw [if_neg c14] at H;have c14b0 : decide (12 < (l1.length : Int)) = false := decide_eq_false c14;have c14b1 : decide (12 < l1.length) = false := decide_eq_false (by omega);clear c14;replace H := Option.bind_eq_some_iff.mp H;obtain ⟨⟨t126, t127⟩, A220, H⟩ := H;replace H : ((r7Divides.f a0_0 a0_1 l0_2 a2_0).bind fun t130 => (if t130 = true then ((r7IsBasis.f k a0_0 a0_1 l0_2 l1 a2_0).bind fun t131 => (if t131 = true then (if t127 = 0 then (l7TowerCoordinates.j0 k l1 a2_0 a2_1 t126 ((t126.length : Int) != (l1.length : Int)) a0_0 a0_1 l0_2) else (l7TowerCoordinates.j0 k l1 a2_0 a2_1 t126 true a0_0 a0_1 l0_2)) else (if t127 = 9 then (some ((t126.length : Int) == 0)) else (some false)))) else (if t127 = 6 then (some ((t126.length : Int) == 0)) else (some false)))) = some r := H;have A22 := Q9a.mk A220;clear A220;replace H := Option.bind_eq_some_iff.mp H;obtain ⟨t130, A230, H⟩ := H;replace H : (if t130 = true then ((r7IsBasis.f k a0_0 a0_1 l0_2 l1 a2_0).bind fun t131 => (if t131 = true then (if t127 = 0 then (l7TowerCoordinates.j0 k l1 a2_0 a2_1 t126 ((t126.length : Int) != (l1.length : Int)) a0_0 a0_1 l0_2) else (l7TowerCoordinates.j0 k l1 a2_0 a2_1 t126 true a0_0 a0_1 l0_2)) else (if t127 = 9 then (some ((t126.length : Int) == 0)) else (some false)))) else (if t127 = 6 then (some ((t126.length : Int) == 0)) else (some false))) = some r := H;have A23 := Q9a.mk A230;clear A230;by_cases c24 : t130 = true
  ·subst c24;have H1 : ((r7IsBasis.f k a0_0 a0_1 l0_2 l1 a2_0).bind fun t131 => (if t131 = true then (if t127 = 0 then (l7TowerCoordinates.j0 k l1 a2_0 a2_1 t126 ((t126.length : Int) != (l1.length : Int)) a0_0 a0_1 l0_2) else (l7TowerCoordinates.j0 k l1 a2_0 a2_1 t126 true a0_0 a0_1 l0_2)) else (if t127 = 9 then (some ((t126.length : Int) == 0)) else (some false)))) = some r := by rw [if_pos rfl] at H; exact H
   clear H;have H := H1;clear H1;replace H := Option.bind_eq_some_iff.mp H;obtain ⟨t131, A250, H⟩ := H;replace H : (if t131 = true then (if t127 = 0 then (l7TowerCoordinates.j0 k l1 a2_0 a2_1 t126 ((t126.length : Int) != (l1.length : Int)) a0_0 a0_1 l0_2) else (l7TowerCoordinates.j0 k l1 a2_0 a2_1 t126 true a0_0 a0_1 l0_2)) else (if t127 = 9 then (some ((t126.length : Int) == 0)) else (some false))) = some r := H;have A25 := Q9a.mk A250;clear A250;by_cases c26 : t131 = true
   ·subst c26;have H1 : (if t127 = 0 then (l7TowerCoordinates.j0 k l1 a2_0 a2_1 t126 ((t126.length : Int) != (l1.length : Int)) a0_0 a0_1 l0_2) else (l7TowerCoordinates.j0 k l1 a2_0 a2_1 t126 true a0_0 a0_1 l0_2)) = some r := by rw [if_pos rfl] at H; exact H
    clear H;have H := H1;clear H1;have HC27 := Q9a.mk H;clear H;go_enter Try.func9, Try.ntmps9
    try go_wp2_with (first | ((with_reducible refine gD (N := 3) rfl ?_); (try (refine gG (by rfl) ?_; dsimp only)); refine bE ?hg (N := 3) ?hd (cs := #[.int .i64 a0_0, .int .i64 a0_1, .slice A0_2 l0_2.length c0_2]) (t := 24) ?hr ?_; (case hd => rfl); (case hg => rfl); (case hr => first | (go_simp; done) | (go_simp; rfl)); intro gb121 hg w28 hbox hb; have n0_ := Q9a.mk (bP (bI HB.out) hb); have n1_ := Q9a.mk (hbox); have n2_ := Q9a.mk ((by rw [hg]; exact (bZ (bI HB.out)) : w.heap.size ≤ gb121)); have n3_ := n2_; clear HB; have HB := n0_; have BK121 := n1_; have GW121 := n2_; have GE121 := n3_; clear n0_ n1_ n2_ n3_; clear hb hbox hg) | ((with_reducible refine gD (N := 5) rfl ?_); (try (refine gG (by rfl) ?_; dsimp only)); refine bE ?hg (N := 5) ?hd (cs := #[.int .i64 a2_0, .int .i64 a2_1]) (t := 38) ?hr ?_; (case hd => rfl); (case hg => rfl); (case hr => first | (go_simp; done) | (go_simp; rfl)); intro gb122 hg w29 hbox hb; have n0_ := Q9a.mk (kB (g := gb121) (o := .cells #[.int .i64 a0_0, .int .i64 a0_1, .slice A0_2 l0_2.length c0_2] 24 (0, 0)) (kI BK121.out) hb); have n1_ := Q9a.mk (bP (bJ HB.out GE121.out) hb); have n2_ := Q9a.mk (hbox); have n3_ := Q9a.mk ((by rw [hg]; exact (bZ (bJ HB.out GE121.out)) : w.heap.size ≤ gb122)); have n4_ := n3_; have n5_ := Q9a.mk ((by rw [hg]; exact Nat.ne_of_lt (blk_lt (g := gb121) (o := .cells #[.int .i64 a0_0, .int .i64 a0_1, .slice A0_2 l0_2.length c0_2] 24 (0, 0)) (kI BK121.out)) : gb121 ≠ gb122)); have n6_ := Q9a.mk ((by rw [hg]; exact Nat.ne_of_gt (blk_lt (g := gb121) (o := .cells #[.int .i64 a0_0, .int .i64 a0_1, .slice A0_2 l0_2.length c0_2] 24 (0, 0)) (kI BK121.out)) : gb122 ≠ gb121)); clear BK121; clear HB; have BK121 := n0_; have HB := n1_; have BK122 := n2_; have GW122 := n3_; have GE122 := n4_; have NB121_122 := n5_; have NB122_121 := n6_; clear n0_ n1_ n2_ n3_ n4_ n5_ n6_; clear hb hbox hg) | ((with_reducible refine gC (f := 10) rfl ?_); refine gL (some 14) rfl rfl Try.func10 (by kernel_rfl) rfl #[] rfl (by (try simp only [sm1, sm2, sm3]); first | done | rfl | (simp only [sm4, sm5]; rfl)) ?_; (with_reducible refine (l7alive.calls k  true _ A4.out).mono ?_); rintro e w30 ⟨rfl, hb⟩; refine ⟨_, rfl, ?_⟩; have n0_ := Q9a.mk (kB (g := gb121) (o := .cells #[.int .i64 a0_0, .int .i64 a0_1, .slice A0_2 l0_2.length c0_2] 24 (0, 0)) (kI BK121.out) hb); have n1_ := Q9a.mk (kB (g := gb122) (o := .cells #[.int .i64 a2_0, .int .i64 a2_1] 38 (0, 0)) (kI BK122.out) hb); have n2_ := Q9a.mk (bP (by repeat (first | (with_reducible first | exact HB.out | apply bA | apply bN | apply bD | refine bS ?_ GE121.out | refine bS ?_ GE122.out) | exact HB.out)) hb); clear BK121; clear BK122; clear HB; have BK121 := n0_; have BK122 := n1_; have HB := n2_; clear n0_ n1_ n2_; have hnb31 := NB121_122.out; have hnc31 := NB122_121.out; have hcz32_0 : w30.cell? ⟨gb121, 0, none⟩ = some (.int .i64 a0_0) := (kC BK121.out 0).trans rfl; have hcz32_1 : w30.cell? ⟨gb121, 1, none⟩ = some (.int .i64 a0_1) := (kC BK121.out 1).trans rfl; have hcz32_2 : w30.cell? ⟨gb121, 2, none⟩ = some (.slice A0_2 l0_2.length c0_2) := (kC BK121.out 2).trans rfl; have hfz32_0 := kF BK121.out 0; have hfz32_1 := kF BK121.out 1; have hfz32_2 := kF BK121.out 2) | ((with_reducible refine gC (f := 11) rfl ?_); refine gL (some 17) rfl rfl Try.func11 (by kernel_rfl) rfl #[.agg #[.int .i64 a0_0, .int .i64 a0_1, .slice A0_2 l0_2.length c0_2]] rfl (by (try simp only [sm1, sm2, sm3]); first | done | rfl | (simp only [sm4, sm5]; rfl)) ?_; (with_reducible refine (l7made.calls a0_0 a0_1 _ _ l0_2 (some q125) _ ?side1 ?side2 A6.out).mono ?_); (case side1 => exact cI HR0_2.out HB.out); (case side2 => exact HC0_2.out); rintro e w33 ⟨b_q125, rfl, hb, hgo⟩; refine ⟨_, rfl, ?_⟩; have n0_ := Q9a.mk (kB (g := gb121) (o := .cells #[.int .i64 a0_0, .int .i64 a0_1, .slice A0_2 l0_2.length c0_2] 24 (0, 0)) (kI BK121.out) hb); have n1_ := Q9a.mk (kB (g := gb122) (o := .cells #[.int .i64 a2_0, .int .i64 a2_1] 38 (0, 0)) (kI BK122.out) hb); have n2_ := Q9a.mk (bP (by repeat (first | (with_reducible first | exact HB.out | apply bA | apply bN | apply bD | refine bS ?_ GE121.out | refine bS ?_ GE122.out) | exact HB.out)) hb); clear BK121; clear BK122; clear HB; have BK121 := n0_; have BK122 := n1_; have HB := n2_; clear n0_ n1_ n2_; (try simp only [gfW_none, gfW_some]); have HBZ := HB; have HRn_ := Q9a.mk (Kd.cB HR0_2.out HB.out); clear HR0_2; have HR0_2 := HRn_; clear HRn_; have HRn_ := Q9a.mk (Kd.cB HR1.out HB.out); clear HR1; have HR1 := HRn_; clear HRn_; clear HB; obtain ⟨wz, rfl⟩ : ∃ z_ : World, z_ = w := ⟨_, rfl⟩; obtain ⟨w, rfl⟩ : ∃ z_ : World, z_ = w33 := ⟨_, rfl⟩; have HB := Q9a.mk (Below.refl w.heap.size w); have HG_q125 := Q9a.mk (hgo : GFok w b_q125 q125); clear hgo))
    have n0_ := Q9a.mk (kD BK121.out);have n1_ := Q9a.mk (kD BK122.out);have n2_ := Q9a.mk (bD HB.out);clear BK121;clear BK122;clear HB;have BK121 := n0_;have BK122 := n1_;have HB := n2_;clear n0_ n1_ n2_;refine start_ (n := 6) (S := fun w' => w'.cell? ⟨gb122, 0, none⟩ = some (.int .i64 a2_0) ∧ w'.cell? ⟨gb122, 1, none⟩ = some (.int .i64 a2_1)) (ds := []) #[fB,fB,fB,fB,fB,fB] (by kernel_rfl) rfl rfl ⟨(kC BK122.out 0).trans rfl, (kC BK122.out 1).trans rfl⟩ (fun hHeld => ?_);generalize w.drew = w34 at BK121 BK122 HB hHeld ⊢;refine pQ 0 18 rfl (by kernel_rfl) ?_;refine pQ 2 20 rfl (by kernel_rfl) ?_;refine tQ 1 19 rfl (by kernel_rfl) hHeld ?_;refine pQ 4 8 rfl (by kernel_rfl) ?_;refine tQ 3 21 rfl (by kernel_rfl) hHeld ?_;refine pQ 5 9 rfl (by kernel_rfl) ?_;refine done_ (by kernel_rfl) ?_;go_upto_region 12 with (first | ((with_reducible refine gC (f := 33) rfl ?_); refine gL (some 34) rfl rfl Try.func33 (by kernel_rfl) rfl #[.pointer (some ⟨b_q125, 0, none⟩), .slice A1 l1.length c1, .int .i64 a2_0, .int .i64 a2_1] rfl (by (try simp only [sm1, sm2, sm3]); first | done | rfl | (simp only [sm4, sm5]; rfl)) ?_; (with_reducible refine (tower_Coordinates.calls b_q125 q125 _ _ l1 a2_0 a2_1 t126 t127 _ ?side1 ?side2 ?side3 A22.out).mono ?_); (case side1 => exact GFok.belowT HG_q125.out (by repeat (first | (with_reducible first | exact HB.out | apply bA | apply bN | apply bD | refine bS ?_ GE121.out | refine bS ?_ GE122.out) | exact HB.out))); (case side2 => exact cI HR1.out HB.out); (case side3 => exact HC1.out); rintro e w35 ⟨v128, rfl, ho0, hb⟩; refine ⟨_, rfl, ?_⟩; have n0_ := Q9a.mk (Kd.rL ho0 (bZ (by repeat (first | (with_reducible first | exact HB.out | apply bA | apply bN | apply bD | refine bS ?_ GE121.out | refine bS ?_ GE122.out) | exact HB.out)))); have n1_ := Q9a.mk (kB (g := gb121) (o := .cells #[.int .i64 a0_0, .int .i64 a0_1, .slice A0_2 l0_2.length c0_2] 24 (0, 0)) (kI BK121.out) hb); have n2_ := Q9a.mk (kB (g := gb122) (o := .cells #[.int .i64 a2_0, .int .i64 a2_1] 38 (0, 0)) (kI BK122.out) hb); have n3_ := Q9a.mk (bP (by repeat (first | (with_reducible first | exact HB.out | apply bA | apply bN | apply bD | refine bS ?_ GE121.out | refine bS ?_ GE122.out) | exact HB.out)) hb); clear BK121; clear BK122; clear HB; have HO129 := n0_; have BK121 := n1_; have BK122 := n2_; have HB := n3_; clear n0_ n1_ n2_ n3_; (try clear ho0); have hcz36_0 : w35.cell? ⟨gb121, 0, none⟩ = some (.int .i64 a0_0) := (kC BK121.out 0).trans rfl; have hcz36_1 : w35.cell? ⟨gb121, 1, none⟩ = some (.int .i64 a0_1) := (kC BK121.out 1).trans rfl; have hcz36_2 : w35.cell? ⟨gb121, 2, none⟩ = some (.slice A0_2 l0_2.length c0_2) := (kC BK121.out 2).trans rfl; have hfz36_0 := kF BK121.out 0; have hfz36_1 := kF BK121.out 1; have hfz36_2 := kF BK121.out 2) | ((with_reducible refine gC (f := 13) rfl ?_); refine gL (some 40) rfl rfl Try.func13 (by kernel_rfl) rfl #[.agg #[.int .i64 a0_0, .int .i64 a0_1, .slice A0_2 l0_2.length c0_2], .int .i64 a2_0] rfl (by (try simp only [sm1, sm2, sm3]); first | done | rfl | (simp only [sm4, sm5]; rfl)) ?_; (with_reducible refine (r7Divides.calls a0_0 a0_1 _ _ l0_2 a2_0 true _ ?side1 ?side2 A23.out).mono ?_); (case side1 => exact cI HR0_2.out HB.out); (case side2 => exact HC0_2.out); rintro e w37 ⟨rfl, hb⟩; refine ⟨_, rfl, ?_⟩; have n0_ := Q9a.mk (Kd.R_below (rI HO129.out) hb); have n1_ := Q9a.mk (kB (g := gb121) (o := .cells #[.int .i64 a0_0, .int .i64 a0_1, .slice A0_2 l0_2.length c0_2] 24 (0, 0)) (kI BK121.out) hb); have n2_ := Q9a.mk (kB (g := gb122) (o := .cells #[.int .i64 a2_0, .int .i64 a2_1] 38 (0, 0)) (kI BK122.out) hb); have n3_ := Q9a.mk (bP (by repeat (first | (with_reducible first | exact HB.out | apply bA | apply bN | apply bD | refine bS ?_ GE121.out | refine bS ?_ GE122.out) | exact HB.out)) hb); clear HO129; clear BK121; clear BK122; clear HB; have HO129 := n0_; have BK121 := n1_; have BK122 := n2_; have HB := n3_; clear n0_ n1_ n2_ n3_; have hcz38_0 : w37.cell? ⟨gb121, 0, none⟩ = some (.int .i64 a0_0) := (kC BK121.out 0).trans rfl; have hcz38_1 : w37.cell? ⟨gb121, 1, none⟩ = some (.int .i64 a0_1) := (kC BK121.out 1).trans rfl; have hcz38_2 : w37.cell? ⟨gb121, 2, none⟩ = some (.slice A0_2 l0_2.length c0_2) := (kC BK121.out 2).trans rfl; have hfz38_0 := kF BK121.out 0; have hfz38_1 := kF BK121.out 1; have hfz38_2 := kF BK121.out 2) | ((with_reducible refine gC (f := 14) rfl ?_); refine gL (some 53) rfl rfl Try.func14 (by kernel_rfl) rfl #[.agg #[.int .i64 a0_0, .int .i64 a0_1, .slice A0_2 l0_2.length c0_2], .slice A1 l1.length c1, .int .i64 a2_0] rfl (by (try simp only [sm1, sm2, sm3]); first | done | rfl | (simp only [sm4, sm5]; rfl)) ?_; (with_reducible refine (r7IsBasis.calls k a0_0 a0_1 _ _ l0_2 _ _ l1 a2_0 true _ ?side1 ?side2 ?side3 ?side4 A25.out).mono ?_); (case side1 => exact cI HR0_2.out HB.out); (case side2 => exact HC0_2.out); (case side3 => exact cI HR1.out HB.out); (case side4 => exact HC1.out); rintro e w39 ⟨rfl, hb⟩; refine ⟨_, rfl, ?_⟩; have n0_ := Q9a.mk (Kd.R_below (rI HO129.out) hb); have n1_ := Q9a.mk (kB (g := gb121) (o := .cells #[.int .i64 a0_0, .int .i64 a0_1, .slice A0_2 l0_2.length c0_2] 24 (0, 0)) (kI BK121.out) hb); have n2_ := Q9a.mk (kB (g := gb122) (o := .cells #[.int .i64 a2_0, .int .i64 a2_1] 38 (0, 0)) (kI BK122.out) hb); have n3_ := Q9a.mk (bP (by repeat (first | (with_reducible first | exact HB.out | apply bA | apply bN | apply bD | refine bS ?_ GE121.out | refine bS ?_ GE122.out) | exact HB.out)) hb); clear HO129; clear BK121; clear BK122; clear HB; have HO129 := n0_; have BK121 := n1_; have BK122 := n2_; have HB := n3_; clear n0_ n1_ n2_ n3_; (try clear hb); (try clear hb2); (try clear hk); (try clear hi)))
    (try simp only [Act.put, sz1, sz2, sz3])
    go_cut [70] (fun v70 wc => ∃ (kq : Nat) (x70_26 : Bool), v70 = .bool x70_26 ∧ Q9a (l7TowerCoordinates.j0 kq l1 a2_0 a2_1 t126 x70_26 a0_0 a0_1 l0_2 = some r) ∧ Q9a (kq ≤ k) ∧ Q9a (Kd.R (Kd.int .i64) 3 wc w.heap.size (fun _ => True) v128 t126) ∧ Q9a (wc.heap[gb121]? = some (.cells #[.int .i64 a0_0, .int .i64 a0_1, (.slice A0_2 l0_2.length c0_2)] 24 (0, 0))) ∧ Q9a (wc.heap[gb122]? = some (.cells #[.int .i64 a2_0, .int .i64 a2_1] 38 (0, 0))) ∧ Q9a (Below w.heap.size w wc))
    case first =>
     have H := HC27.out;clear HC27;by_cases c40 : t127 = 0
     ·rw [if_pos c40] at H;have c40b0 : (t127 == 0) = true := beq_iff_eq.mpr c40;have c40b1 : (t127 != 0) = false := bne_eq_false_iff_eq.mpr c40;clear c40;(first | rw [c40b0] | (simp only [i64_w, i32_w]; rw [c40b0]) | skip)
      have H' := Q9a.mk H;clear H;obtain ⟨Ao41, co41, eo41⟩ := Kd.R_slice HO129.out;subst eo41;go_wp2
      go_meet
      case rel => exact ⟨_, (((t126.length : Int) != (l1.length : Int))), (by first | rfl | (simp; done) | (simp [*]; done)), H', ⟨by first | omega | exact Nat.le_refl _⟩, ⟨rI HO129.out⟩, ⟨kI BK121.out⟩, ⟨kI BK122.out⟩, ⟨by repeat (first | (with_reducible first | exact HB.out | apply bA | apply bN | apply bD | refine bS ?_ GE121.out | refine bS ?_ GE122.out) | exact HB.out)⟩⟩
     rw [if_neg c40] at H;have c40b0 : (t127 == 0) = false := beq_eq_false_iff_ne.mpr c40;have c40b1 : (t127 != 0) = true := bne_iff_ne.mpr c40;(first | rw [c40b0] | (simp only [i64_w, i32_w]; rw [c40b0]) | skip)
     have H' := Q9a.mk H;clear H;go_wp2
     go_meet
     case rel => exact ⟨_, (true), (by first | rfl | (simp; done) | (simp [*]; done)), H', ⟨by first | omega | exact Nat.le_refl _⟩, ⟨rI HO129.out⟩, ⟨kI BK121.out⟩, ⟨kI BK122.out⟩, ⟨by repeat (first | (with_reducible first | exact HB.out | apply bA | apply bN | apply bD | refine bS ?_ GE121.out | refine bS ?_ GE122.out) | exact HB.out)⟩⟩
    case rest =>
     clear HC27;try clear c1
     try clear q1
     try clear c2
     try clear p2
     try clear c3
     try clear c4
     try clear c5
     try clear c9
     try clear c10
     try clear c11
     try clear q12
     try clear c13
     try clear c14
     try clear c14b0
     try clear c14b1
     try clear c18
     try clear c24
     try clear c26
     try clear c31
     try clear c33
     try clear c40
     try clear c40b0
     try clear c40b1
     try clear hcz11_0
     try clear hcz11_1
     try clear hcz11_2
     try clear hcz19_0
     try clear hcz19_1
     try clear hcz19_2
     try clear hcz32_0
     try clear hcz32_1
     try clear hcz32_2
     try clear hcz36_0
     try clear hcz36_1
     try clear hcz36_2
     try clear hcz38_0
     try clear hcz38_1
     try clear hcz38_2
     try clear hfz11_0
     try clear hfz11_1
     try clear hfz11_2
     try clear hfz19_0
     try clear hfz19_1
     try clear hfz19_2
     try clear hfz32_0
     try clear hfz32_1
     try clear hfz32_2
     try clear hfz36_0
     try clear hfz36_1
     try clear hfz36_2
     try clear hfz38_0
     try clear hfz38_1
     try clear hfz38_2
     try clear q125
     obtain ⟨kq, x70_26, rfl, HA, HJ26, HO_10, BK121, BK122, HB⟩ := hcut
     cases kq with
     | zero => exact absurd HA.out (by simp [l7TowerCoordinates.j0])
     | succ kj26 =>
      have H := HA.out;clear HA;simp only [l7TowerCoordinates.j0] at H;by_cases c42 : x70_26 = true
      ·subst c42;have H1 : (some false) = some r := by rw [if_pos rfl] at H; exact H
       clear H;have H := H1;clear H1;obtain rfl := Option.some.inj H;go_wp2
       go_ret
       exact ⟨by first | rfl | (simp [*, eN, eS] <;> rfl), belowZ HBZ.out (by repeat (first | (with_reducible first | exact HB.out | apply bA | apply bN | apply bD | refine bS ?_ GE121.out | refine bS ?_ GE122.out) | exact HB.out))⟩
      replace c42 := Bool.eq_false_iff.mpr c42;subst c42;have H1 : (l7TowerCoordinates.l0 kj26 l1 a2_0 a2_1 t126 t126 (t126.length : Int) 0 a0_0 a0_1 l0_2) = some r := by rw [if_neg (show ¬ (false = true) by decide)] at H; exact H
      clear H;have H := H1;clear H1;have H' := Q9a.mk H;clear H;obtain ⟨Ao43, co43, eo43⟩ := Kd.R_slice HO_10.out;subst eo43;go_wp2
      go_loopg [73] kj26 (fun kq v73 w' => ∃ (x73_2 : Int), v73 = .int .i64 x73_2 ∧ Q9a (l7TowerCoordinates.l0 kq l1 a2_0 a2_1 t126 t126 (t126.length : Int) x73_2 a0_0 a0_1 l0_2 = some r) ∧ Q9a (kq ≤ kj26) ∧ Q9a (Kd.R (Kd.int .i64) 3 w' w.heap.size (fun _ => True) (.slice Ao43 t126.length co43) t126) ∧ Q9a (Kd.R (Kd.int .i64) 3 w' w.heap.size (fun _ => True) (.slice Ao43 t126.length co43) t126) ∧ Q9a (w'.heap[gb121]? = some (.cells #[.int .i64 a0_0, .int .i64 a0_1, (.slice A0_2 l0_2.length c0_2)] 24 (0, 0))) ∧ Q9a (w'.heap[gb122]? = some (.cells #[.int .i64 a2_0, .int .i64 a2_1] 38 (0, 0))) ∧ Q9a (Below w.heap.size w w'))
      case atStart => exact ⟨(0), (by first | rfl | (simp; done) | (simp [*]; done)), H', ⟨Nat.le_refl _⟩, ⟨rI HO_10.out⟩, ⟨rI HO_10.out⟩, ⟨kI BK121.out⟩, ⟨kI BK122.out⟩, ⟨by repeat (first | (with_reducible first | exact HB.out | apply bA | apply bN | apply bD | refine bS ?_ GE121.out | refine bS ?_ GE122.out) | exact HB.out)⟩⟩
      case round =>
       clear H';try clear c1
       try clear q1
       try clear c2
       try clear p2
       try clear c3
       try clear c4
       try clear c5
       try clear c9
       try clear c10
       try clear c11
       try clear q12
       try clear c13
       try clear c14
       try clear c14b0
       try clear c14b1
       try clear c18
       try clear c24
       try clear c26
       try clear c31
       try clear c33
       try clear c40
       try clear c40b0
       try clear c40b1
       try clear c42
       try clear hcz11_0
       try clear hcz11_1
       try clear hcz11_2
       try clear hcz19_0
       try clear hcz19_1
       try clear hcz19_2
       try clear hcz32_0
       try clear hcz32_1
       try clear hcz32_2
       try clear hcz36_0
       try clear hcz36_1
       try clear hcz36_2
       try clear hcz38_0
       try clear hcz38_1
       try clear hcz38_2
       try clear hfz11_0
       try clear hfz11_1
       try clear hfz11_2
       try clear hfz19_0
       try clear hfz19_1
       try clear hfz19_2
       try clear hfz32_0
       try clear hfz32_1
       try clear hfz32_2
       try clear hfz36_0
       try clear hfz36_1
       try clear hfz36_2
       try clear hfz38_0
       try clear hfz38_1
       try clear hfz38_2
       try clear p2
       try clear q1
       try clear q12
       try clear q125
       obtain ⟨x73_2, rfl, HA, HK2, HO_10, HO_71, BK121, BK122, HB⟩ := hrel
       cases gk with
       | zero => exact absurd HA.out (by simp [l7TowerCoordinates.l0])
       | succ k2 =>
        have H := HA.out;clear HA;simp only [l7TowerCoordinates.l0] at H;by_cases c44 : x73_2 < (t126.length : Int)
        ·rw [if_pos c44] at H;have c44b0 : decide (x73_2 < (t126.length : Int)) = true := decide_eq_true c44;clear c44;by_cases c45 : 0 ≤ x73_2
         ·rw [if_pos c45] at H;have c45b0 : decide (0 ≤ x73_2) = true := decide_eq_true c45;clear c45;by_cases c46 : x73_2 < (t126.length : Int)
          ·rw [if_pos c46] at H;have c46b0 : decide (x73_2 < (t126.length : Int)) = true := decide_eq_true c46;clear c46;replace H := Option.bind_eq_some_iff.mp H;obtain ⟨t135, A470, H⟩ := H;replace H : (if t135 = true then ((r7In.f k2 a0_0 a0_1 l0_2 (rd t126 x73_2) a2_0).bind fun t136 => (if t136 = true then (l7TowerCoordinates.l0 k2 l1 a2_0 a2_1 t126 t126 (t126.length : Int) (wrap64 (x73_2 + 1)) a0_0 a0_1 l0_2) else (some false))) else (some false)) = some r := H;have A47 := Q9a.mk A470;clear A470;by_cases c48 : t135 = true
           ·subst c48;have H1 : ((r7In.f k2 a0_0 a0_1 l0_2 (rd t126 x73_2) a2_0).bind fun t136 => (if t136 = true then (l7TowerCoordinates.l0 k2 l1 a2_0 a2_1 t126 t126 (t126.length : Int) (wrap64 (x73_2 + 1)) a0_0 a0_1 l0_2) else (some false))) = some r := by rw [if_pos rfl] at H; exact H
            clear H;have H := H1;clear H1;replace H := Option.bind_eq_some_iff.mp H;obtain ⟨t136, A490, H⟩ := H;replace H : (if t136 = true then (l7TowerCoordinates.l0 k2 l1 a2_0 a2_1 t126 t126 (t126.length : Int) (wrap64 (x73_2 + 1)) a0_0 a0_1 l0_2) else (some false)) = some r := H;have A49 := Q9a.mk A490;clear A490;by_cases c50 : t136 = true
            ·subst c50;have H1 : (l7TowerCoordinates.l0 k2 l1 a2_0 a2_1 t126 t126 (t126.length : Int) (wrap64 (x73_2 + 1)) a0_0 a0_1 l0_2) = some r := by rw [if_pos rfl] at H; exact H
             clear H;have H := H1;clear H1;have H' := Q9a.mk H;clear H;have p134 : 0 ≤ (x73_2 : Int) := of_decide_eq_true (by first | (with_reducible assumption) | assumption);have q134 : x73_2 < (t126.length : Int) := of_decide_eq_true (by first | (with_reducible assumption) | assumption);obtain ⟨ad134, e134, hx134_0⟩ := Kd.at_int (Kd.R_reads' HO_71.out).2.2 x73_2 p134 q134
             cases e134
             replace p134 := eq_true p134;replace q134 := eq_true q134;have hnb51 := NB121_122.out;have hnc51 := NB122_121.out;have hcz52_0 : wr.cell? ⟨gb121, 0, none⟩ = some (.int .i64 a0_0) := (kC BK121.out 0).trans rfl;have hcz52_1 : wr.cell? ⟨gb121, 1, none⟩ = some (.int .i64 a0_1) := (kC BK121.out 1).trans rfl;have hcz52_2 : wr.cell? ⟨gb121, 2, none⟩ = some (.slice A0_2 l0_2.length c0_2) := (kC BK121.out 2).trans rfl;have hfz52_0 := kF BK121.out 0;have hfz52_1 := kF BK121.out 1;have hfz52_2 := kF BK121.out 2;go_wp2_with (first | ((with_reducible refine gC (f := 17) rfl ?_); refine gL (some 79) rfl rfl Try.func17 (by kernel_rfl) rfl #[.agg #[.int .i64 a0_0, .int .i64 a0_1, .slice A0_2 l0_2.length c0_2], .int .i64 (rd t126 x73_2)] rfl (by (try simp only [sm1, sm2, sm3]); first | done | rfl | (simp only [sm4, sm5]; rfl)) ?_; (with_reducible refine (r4Is.calls k2 a0_0 a0_1 _ _ l0_2 (rd t126 x73_2) true _ ?side1 ?side2 A47.out).mono ?_); (case side1 => exact cI HR0_2.out HB.out); (case side2 => exact HC0_2.out); rintro e w53 ⟨rfl, hb⟩; refine ⟨_, rfl, ?_⟩; have n0_ := Q9a.mk (Kd.R_below (rI HO_10.out) hb); have n1_ := Q9a.mk (Kd.R_below (rI HO_71.out) hb); have n2_ := Q9a.mk (kB (g := gb121) (o := .cells #[.int .i64 a0_0, .int .i64 a0_1, .slice A0_2 l0_2.length c0_2] 24 (0, 0)) (kI BK121.out) hb); have n3_ := Q9a.mk (kB (g := gb122) (o := .cells #[.int .i64 a2_0, .int .i64 a2_1] 38 (0, 0)) (kI BK122.out) hb); have n4_ := Q9a.mk (bP (by repeat (first | (with_reducible first | exact HB.out | apply bA | apply bN | apply bD | refine bS ?_ GE121.out | refine bS ?_ GE122.out) | exact HB.out)) hb); clear HO_10; clear HO_71; clear BK121; clear BK122; clear HB; have HO_10 := n0_; have HO_71 := n1_; have BK121 := n2_; have BK122 := n3_; have HB := n4_; clear n0_ n1_ n2_ n3_ n4_; have hcz54_0 : w53.cell? ⟨gb121, 0, none⟩ = some (.int .i64 a0_0) := (kC BK121.out 0).trans rfl; have hcz54_1 : w53.cell? ⟨gb121, 1, none⟩ = some (.int .i64 a0_1) := (kC BK121.out 1).trans rfl; have hcz54_2 : w53.cell? ⟨gb121, 2, none⟩ = some (.slice A0_2 l0_2.length c0_2) := (kC BK121.out 2).trans rfl; have hfz54_0 := kF BK121.out 0; have hfz54_1 := kF BK121.out 1; have hfz54_2 := kF BK121.out 2) | (go_at_call 24; (with_reducible refine (r7In.calls k2 a0_0 a0_1 _ _ l0_2 (rd t126 x73_2) a2_0 true _ ?side1 ?side2 A49.out).mono ?_); (case side1 => exact cI HR0_2.out HB.out); (case side2 => exact HC0_2.out); rintro e w55 ⟨rfl, hb⟩; have n0_ := Q9a.mk (Kd.R_below (rI HO_10.out) hb); have n1_ := Q9a.mk (Kd.R_below (rI HO_71.out) hb); have n2_ := Q9a.mk (kB (g := gb121) (o := .cells #[.int .i64 a0_0, .int .i64 a0_1, .slice A0_2 l0_2.length c0_2] 24 (0, 0)) (kI BK121.out) hb); have n3_ := Q9a.mk (kB (g := gb122) (o := .cells #[.int .i64 a2_0, .int .i64 a2_1] 38 (0, 0)) (kI BK122.out) hb); have n4_ := Q9a.mk (bP (by repeat (first | (with_reducible first | exact HB.out | apply bA | apply bN | apply bD | refine bS ?_ GE121.out | refine bS ?_ GE122.out) | exact HB.out)) hb); clear HO_10; clear HO_71; clear BK121; clear BK122; clear HB; have HO_10 := n0_; have HO_71 := n1_; have BK121 := n2_; have BK122 := n3_; have HB := n4_; clear n0_ n1_ n2_ n3_ n4_; (try clear hb); (try clear hb2); (try clear hk); (try clear hi)))
             go_roundg k2
             case measure => have := HJ26.out; have := HK2.out; omega
             case rel => exact ⟨(wrap64 (x73_2 + 1)), (by first | rfl | (simp; done) | (simp [*]; done)), H', ⟨by have := HJ26.out; have := HK2.out; omega⟩, ⟨rI HO_10.out⟩, ⟨rI HO_71.out⟩, ⟨kI BK121.out⟩, ⟨kI BK122.out⟩, ⟨by repeat (first | (with_reducible first | exact HB.out | apply bA | apply bN | apply bD | refine bS ?_ GE121.out | refine bS ?_ GE122.out) | exact HB.out)⟩⟩
            replace c50 := Bool.eq_false_iff.mpr c50;subst c50;have H1 : (some false) = some r := by rw [if_neg (show ¬ (false = true) by decide)] at H; exact H
            clear H;have H := H1;clear H1;obtain rfl := Option.some.inj H;have p134 : 0 ≤ (x73_2 : Int) := of_decide_eq_true (by first | (with_reducible assumption) | assumption);have q134 : x73_2 < (t126.length : Int) := of_decide_eq_true (by first | (with_reducible assumption) | assumption);obtain ⟨ad134, e134, hx134_0⟩ := Kd.at_int (Kd.R_reads' HO_71.out).2.2 x73_2 p134 q134
            cases e134
            replace p134 := eq_true p134;replace q134 := eq_true q134;have hnb56 := NB121_122.out;have hnc56 := NB122_121.out;have hcz57_0 : wr.cell? ⟨gb121, 0, none⟩ = some (.int .i64 a0_0) := (kC BK121.out 0).trans rfl;have hcz57_1 : wr.cell? ⟨gb121, 1, none⟩ = some (.int .i64 a0_1) := (kC BK121.out 1).trans rfl;have hcz57_2 : wr.cell? ⟨gb121, 2, none⟩ = some (.slice A0_2 l0_2.length c0_2) := (kC BK121.out 2).trans rfl;have hfz57_0 := kF BK121.out 0;have hfz57_1 := kF BK121.out 1;have hfz57_2 := kF BK121.out 2;go_wp2_with (first | ((with_reducible refine gC (f := 17) rfl ?_); refine gL (some 79) rfl rfl Try.func17 (by kernel_rfl) rfl #[.agg #[.int .i64 a0_0, .int .i64 a0_1, .slice A0_2 l0_2.length c0_2], .int .i64 (rd t126 x73_2)] rfl (by (try simp only [sm1, sm2, sm3]); first | done | rfl | (simp only [sm4, sm5]; rfl)) ?_; (with_reducible refine (r4Is.calls k2 a0_0 a0_1 _ _ l0_2 (rd t126 x73_2) true _ ?side1 ?side2 A47.out).mono ?_); (case side1 => exact cI HR0_2.out HB.out); (case side2 => exact HC0_2.out); rintro e w58 ⟨rfl, hb⟩; refine ⟨_, rfl, ?_⟩; have n0_ := Q9a.mk (Kd.R_below (rI HO_10.out) hb); have n1_ := Q9a.mk (Kd.R_below (rI HO_71.out) hb); have n2_ := Q9a.mk (kB (g := gb121) (o := .cells #[.int .i64 a0_0, .int .i64 a0_1, .slice A0_2 l0_2.length c0_2] 24 (0, 0)) (kI BK121.out) hb); have n3_ := Q9a.mk (kB (g := gb122) (o := .cells #[.int .i64 a2_0, .int .i64 a2_1] 38 (0, 0)) (kI BK122.out) hb); have n4_ := Q9a.mk (bP (by repeat (first | (with_reducible first | exact HB.out | apply bA | apply bN | apply bD | refine bS ?_ GE121.out | refine bS ?_ GE122.out) | exact HB.out)) hb); clear HO_10; clear HO_71; clear BK121; clear BK122; clear HB; have HO_10 := n0_; have HO_71 := n1_; have BK121 := n2_; have BK122 := n3_; have HB := n4_; clear n0_ n1_ n2_ n3_ n4_; have hcz59_0 : w58.cell? ⟨gb121, 0, none⟩ = some (.int .i64 a0_0) := (kC BK121.out 0).trans rfl; have hcz59_1 : w58.cell? ⟨gb121, 1, none⟩ = some (.int .i64 a0_1) := (kC BK121.out 1).trans rfl; have hcz59_2 : w58.cell? ⟨gb121, 2, none⟩ = some (.slice A0_2 l0_2.length c0_2) := (kC BK121.out 2).trans rfl; have hfz59_0 := kF BK121.out 0; have hfz59_1 := kF BK121.out 1; have hfz59_2 := kF BK121.out 2) | (go_at_call 24; (with_reducible refine (r7In.calls k2 a0_0 a0_1 _ _ l0_2 (rd t126 x73_2) a2_0 false _ ?side1 ?side2 A49.out).mono ?_); (case side1 => exact cI HR0_2.out HB.out); (case side2 => exact HC0_2.out); rintro e w60 ⟨rfl, hb⟩; have n0_ := Q9a.mk (Kd.R_below (rI HO_10.out) hb); have n1_ := Q9a.mk (Kd.R_below (rI HO_71.out) hb); have n2_ := Q9a.mk (kB (g := gb121) (o := .cells #[.int .i64 a0_0, .int .i64 a0_1, .slice A0_2 l0_2.length c0_2] 24 (0, 0)) (kI BK121.out) hb); have n3_ := Q9a.mk (kB (g := gb122) (o := .cells #[.int .i64 a2_0, .int .i64 a2_1] 38 (0, 0)) (kI BK122.out) hb); have n4_ := Q9a.mk (bP (by repeat (first | (with_reducible first | exact HB.out | apply bA | apply bN | apply bD | refine bS ?_ GE121.out | refine bS ?_ GE122.out) | exact HB.out)) hb); clear HO_10; clear HO_71; clear BK121; clear BK122; clear HB; have HO_10 := n0_; have HO_71 := n1_; have BK121 := n2_; have BK122 := n3_; have HB := n4_; clear n0_ n1_ n2_ n3_ n4_; (try clear hb); (try clear hb2); (try clear hk); (try clear hi)))
            go_ret
            exact ⟨by first | rfl | (simp [*, eN, eS] <;> rfl), belowZ HBZ.out (by repeat (first | (with_reducible first | exact HB.out | apply bA | apply bN | apply bD | refine bS ?_ GE121.out | refine bS ?_ GE122.out) | exact HB.out))⟩
           replace c48 := Bool.eq_false_iff.mpr c48;subst c48;have H1 : (some false) = some r := by rw [if_neg (show ¬ (false = true) by decide)] at H; exact H
           clear H;have H := H1;clear H1;obtain rfl := Option.some.inj H;have p134 : 0 ≤ (x73_2 : Int) := of_decide_eq_true (by first | (with_reducible assumption) | assumption);have q134 : x73_2 < (t126.length : Int) := of_decide_eq_true (by first | (with_reducible assumption) | assumption);obtain ⟨ad134, e134, hx134_0⟩ := Kd.at_int (Kd.R_reads' HO_71.out).2.2 x73_2 p134 q134
           cases e134
           replace p134 := eq_true p134;replace q134 := eq_true q134;have hnb61 := NB121_122.out;have hnc61 := NB122_121.out;have hcz62_0 : wr.cell? ⟨gb121, 0, none⟩ = some (.int .i64 a0_0) := (kC BK121.out 0).trans rfl;have hcz62_1 : wr.cell? ⟨gb121, 1, none⟩ = some (.int .i64 a0_1) := (kC BK121.out 1).trans rfl;have hcz62_2 : wr.cell? ⟨gb121, 2, none⟩ = some (.slice A0_2 l0_2.length c0_2) := (kC BK121.out 2).trans rfl;have hfz62_0 := kF BK121.out 0;have hfz62_1 := kF BK121.out 1;have hfz62_2 := kF BK121.out 2;go_wp2_with (first | ((with_reducible refine gC (f := 17) rfl ?_); refine gL (some 79) rfl rfl Try.func17 (by kernel_rfl) rfl #[.agg #[.int .i64 a0_0, .int .i64 a0_1, .slice A0_2 l0_2.length c0_2], .int .i64 (rd t126 x73_2)] rfl (by (try simp only [sm1, sm2, sm3]); first | done | rfl | (simp only [sm4, sm5]; rfl)) ?_; (with_reducible refine (r4Is.calls k2 a0_0 a0_1 _ _ l0_2 (rd t126 x73_2) false _ ?side1 ?side2 A47.out).mono ?_); (case side1 => exact cI HR0_2.out HB.out); (case side2 => exact HC0_2.out); rintro e w63 ⟨rfl, hb⟩; refine ⟨_, rfl, ?_⟩; have n0_ := Q9a.mk (Kd.R_below (rI HO_10.out) hb); have n1_ := Q9a.mk (Kd.R_below (rI HO_71.out) hb); have n2_ := Q9a.mk (kB (g := gb121) (o := .cells #[.int .i64 a0_0, .int .i64 a0_1, .slice A0_2 l0_2.length c0_2] 24 (0, 0)) (kI BK121.out) hb); have n3_ := Q9a.mk (kB (g := gb122) (o := .cells #[.int .i64 a2_0, .int .i64 a2_1] 38 (0, 0)) (kI BK122.out) hb); have n4_ := Q9a.mk (bP (by repeat (first | (with_reducible first | exact HB.out | apply bA | apply bN | apply bD | refine bS ?_ GE121.out | refine bS ?_ GE122.out) | exact HB.out)) hb); clear HO_10; clear HO_71; clear BK121; clear BK122; clear HB; have HO_10 := n0_; have HO_71 := n1_; have BK121 := n2_; have BK122 := n3_; have HB := n4_; clear n0_ n1_ n2_ n3_ n4_; (try clear hb); (try clear hb2); (try clear hk); (try clear hi)))
           go_ret
           exact ⟨by first | rfl | (simp [*, eN, eS] <;> rfl), belowZ HBZ.out (by repeat (first | (with_reducible first | exact HB.out | apply bA | apply bN | apply bD | refine bS ?_ GE121.out | refine bS ?_ GE122.out) | exact HB.out))⟩
          rw [if_neg c46] at H;exact absurd H (by simp)
         rw [if_neg c45] at H;exact absurd H (by simp)
        rw [if_neg c44] at H;have c44b0 : decide (x73_2 < (t126.length : Int)) = false := decide_eq_false c44;clear c44;replace H := Option.bind_eq_some_iff.mp H;obtain ⟨t132, A640, H⟩ := H;replace H : ((r4In.f k2 a0_0 a0_1 l0_2 a2_1).bind fun t133 => (some (t132 == t133))) = some r := H;have A64 := Q9a.mk A640;clear A640;replace H := Option.bind_eq_some_iff.mp H;obtain ⟨t133, A650, H⟩ := H;replace H : (some (t132 == t133)) = some r := H;have A65 := Q9a.mk A650;clear A650;obtain rfl := Option.some.inj H;try go_wp2
        have n0_ := Q9a.mk (Kd.rD HO_10.out);have n1_ := Q9a.mk (Kd.rD HO_71.out);have n2_ := Q9a.mk (kD BK121.out);have n3_ := Q9a.mk (kD BK122.out);have n4_ := Q9a.mk (bD HB.out);clear HO_10;clear HO_71;clear BK121;clear BK122;clear HB;have HO_10 := n0_;have HO_71 := n1_;have BK121 := n2_;have BK122 := n3_;have HB := n4_;clear n0_ n1_ n2_ n3_ n4_;refine start_ (n := 9) (S := fun w' => w'.cell? ⟨gb121, 0, none⟩ = some (.int .i64 a0_0) ∧ w'.cell? ⟨gb121, 1, none⟩ = some (.int .i64 a0_1) ∧ w'.cell? ⟨gb121, 2, none⟩ = some (.slice A0_2 l0_2.length c0_2)) (ds := []) #[fB,fB,fB,fB,fB,fB,fB,fB,fB] (by kernel_rfl) rfl rfl ⟨(kC BK121.out 0).trans rfl, (kC BK121.out 1).trans rfl, (kC BK121.out 2).trans rfl⟩ (fun hHeld => ?_); refine with_tabW l7TowerCoordinates.tab20 l7TowerCoordinates.bits20 (fun HT_ HW_ => ?_);generalize wr.drew = w66 at HO_10 HO_71 BK121 BK122 HB hHeld ⊢;refine pT 1 90 rfl HT_.out ?_;refine pT 2 91 rfl HT_.out ?_;refine pT 5 94 rfl HT_.out ?_;refine tT 0 89 rfl HT_.out HW_.out hHeld ?_;refine tT 4 93 rfl HT_.out HW_.out hHeld ?_;refine oT 3 92 rfl HT_.out (fun K hK => ?_);refine goes_ Try.func34 (by kernel_rfl) rfl #[.agg #[.int .i64 a0_0, .int .i64 a0_1, .slice A0_2 l0_2.length c0_2], .slice Ao43 t126.length co43, .slice A1 l1.length c1] (by rfl) rfl rfl (by (try simp only [sm1, sm2, sm3]); first | done | rfl | (simp only [sm4, sm5]; rfl)) ?_;with_reducible refine (r4Dot.calls k2 a0_0 a0_1 _ _ l0_2 _ _ t126 _ _ l1 t132 _ ?side1 ?side2 ?side3 ?side4 ?side5 ?side6 A64.out).mono ?_
        (case side1 => exact cI HR0_2.out HB.out)
        (case side2 => exact HC0_2.out)
        (case side3 => repeat (first | exact (Kd.R_reads' HO_10.out).2.2 | with_reducible first | refine Kd.cA ?_ _ | refine Kd.cN ?_ _ | refine Kd.cD ?_))
        (case side4 => exact (Kd.R_reads' HO_10.out).2.1)
        (case side5 => exact cI HR1.out HB.out)
        (case side6 => exact HC1.out)
        rintro e w67 ⟨rfl, hb⟩;refine ⟨_, rfl, ?_⟩;have n0_ := Q9a.mk (Kd.R_below (rI HO_10.out) hb);have n1_ := Q9a.mk (Kd.R_below (rI HO_71.out) hb);have n2_ := Q9a.mk (kB (g := gb121) (o := .cells #[.int .i64 a0_0, .int .i64 a0_1, .slice A0_2 l0_2.length c0_2] 24 (0, 0)) (kI BK121.out) hb);have n3_ := Q9a.mk (kB (g := gb122) (o := .cells #[.int .i64 a2_0, .int .i64 a2_1] 38 (0, 0)) (kI BK122.out) hb);have n4_ := Q9a.mk (bP (by repeat (first | (with_reducible first | exact HB.out | apply bA | apply bN | apply bD | refine bS ?_ GE121.out | refine bS ?_ GE122.out) | exact HB.out)) hb);clear HO_10;clear HO_71;clear BK121;clear BK122;clear HB;have HO_10 := n0_;have HO_71 := n1_;have BK121 := n2_;have BK122 := n3_;have HB := n4_;clear n0_ n1_ n2_ n3_ n4_;refine hK.out _ _ ⟨(kC BK121.out 0).trans rfl, (kC BK121.out 1).trans rfl, (kC BK121.out 2).trans rfl⟩ (fun hHeld => ?_);clear hK K;refine norm_ (a' := ?_) ?_ ?_;rotate_left
        ·show Act.put _ (some 92) _ = _
         simp only [Act.put, sz1, sz2, sz3, i64_w, i32_w];rfl
        refine oT 6 95 rfl HT_.out (fun K hK => ?_);refine goes_ Try.func30 (by kernel_rfl) rfl #[.agg #[.int .i64 a0_0, .int .i64 a0_1, .slice A0_2 l0_2.length c0_2], .int .i64 a2_1] (by rfl) rfl rfl (by (try simp only [sm1, sm2, sm3]); first | done | rfl | (simp only [sm4, sm5]; rfl)) ?_;with_reducible refine (r4In.calls k2 a0_0 a0_1 _ _ l0_2 a2_1 t133 _ ?side1 ?side2 A65.out).mono ?_
        (case side1 => exact cI HR0_2.out HB.out)
        (case side2 => exact HC0_2.out)
        rintro e w68 ⟨rfl, hb⟩;refine ⟨_, rfl, ?_⟩;have n0_ := Q9a.mk (Kd.R_below (rI HO_10.out) hb);have n1_ := Q9a.mk (Kd.R_below (rI HO_71.out) hb);have n2_ := Q9a.mk (kB (g := gb121) (o := .cells #[.int .i64 a0_0, .int .i64 a0_1, .slice A0_2 l0_2.length c0_2] 24 (0, 0)) (kI BK121.out) hb);have n3_ := Q9a.mk (kB (g := gb122) (o := .cells #[.int .i64 a2_0, .int .i64 a2_1] 38 (0, 0)) (kI BK122.out) hb);have n4_ := Q9a.mk (bP (by repeat (first | (with_reducible first | exact HB.out | apply bA | apply bN | apply bD | refine bS ?_ GE121.out | refine bS ?_ GE122.out) | exact HB.out)) hb);clear HO_10;clear HO_71;clear BK121;clear BK122;clear HB;have HO_10 := n0_;have HO_71 := n1_;have BK121 := n2_;have BK122 := n3_;have HB := n4_;clear n0_ n1_ n2_ n3_ n4_;refine hK.out _ _ ⟨(kC BK121.out 0).trans rfl, (kC BK121.out 1).trans rfl, (kC BK121.out 2).trans rfl⟩ (fun hHeld => ?_);clear hK K;refine norm_ (a' := ?_) ?_ ?_;rotate_left
        ·show Act.put _ (some 95) _ = _
         simp only [Act.put, sz1, sz2, sz3, i64_w, i32_w];rfl
        refine pT 7 96 rfl HT_.out ?_;refine pT 8 6 rfl HT_.out ?_;refine done_ (done_of HT_.out (by kernel_rfl)) ?_;try go_wp2
        go_ret
        exact ⟨by first | rfl | (simp [*, eN, eS] <;> rfl), belowZ HBZ.out (by repeat (first | (with_reducible first | exact HB.out | apply bA | apply bN | apply bD | refine bS ?_ GE121.out | refine bS ?_ GE122.out) | exact HB.out))⟩
   replace c26 := Bool.eq_false_iff.mpr c26;subst c26;have H1 : (if t127 = 9 then (some ((t126.length : Int) == 0)) else (some false)) = some r := by rw [if_neg (show ¬ (false = true) by decide)] at H; exact H
   clear H;have H := H1;clear H1;by_cases c69 : t127 = 9
   ·rw [if_pos c69] at H;have c69b0 : (t127 == 9) = true := beq_iff_eq.mpr c69;have c69b1 : (t127 != 9) = false := bne_eq_false_iff_eq.mpr c69;clear c69;obtain rfl := Option.some.inj H;go_enter Try.func9, Try.ntmps9
    try go_wp2_with (first | ((with_reducible refine gD (N := 3) rfl ?_); (try (refine gG (by rfl) ?_; dsimp only)); refine bE ?hg (N := 3) ?hd (cs := #[.int .i64 a0_0, .int .i64 a0_1, .slice A0_2 l0_2.length c0_2]) (t := 24) ?hr ?_; (case hd => rfl); (case hg => rfl); (case hr => first | (go_simp; done) | (go_simp; rfl)); intro gb121 hg w70 hbox hb; have n0_ := Q9a.mk (bP (bI HB.out) hb); have n1_ := Q9a.mk (hbox); have n2_ := Q9a.mk ((by rw [hg]; exact (bZ (bI HB.out)) : w.heap.size ≤ gb121)); have n3_ := n2_; clear HB; have HB := n0_; have BK121 := n1_; have GW121 := n2_; have GE121 := n3_; clear n0_ n1_ n2_ n3_; clear hb hbox hg) | ((with_reducible refine gD (N := 5) rfl ?_); (try (refine gG (by rfl) ?_; dsimp only)); refine bE ?hg (N := 5) ?hd (cs := #[.int .i64 a2_0, .int .i64 a2_1]) (t := 38) ?hr ?_; (case hd => rfl); (case hg => rfl); (case hr => first | (go_simp; done) | (go_simp; rfl)); intro gb122 hg w71 hbox hb; have n0_ := Q9a.mk (kB (g := gb121) (o := .cells #[.int .i64 a0_0, .int .i64 a0_1, .slice A0_2 l0_2.length c0_2] 24 (0, 0)) (kI BK121.out) hb); have n1_ := Q9a.mk (bP (bJ HB.out GE121.out) hb); have n2_ := Q9a.mk (hbox); have n3_ := Q9a.mk ((by rw [hg]; exact (bZ (bJ HB.out GE121.out)) : w.heap.size ≤ gb122)); have n4_ := n3_; have n5_ := Q9a.mk ((by rw [hg]; exact Nat.ne_of_lt (blk_lt (g := gb121) (o := .cells #[.int .i64 a0_0, .int .i64 a0_1, .slice A0_2 l0_2.length c0_2] 24 (0, 0)) (kI BK121.out)) : gb121 ≠ gb122)); have n6_ := Q9a.mk ((by rw [hg]; exact Nat.ne_of_gt (blk_lt (g := gb121) (o := .cells #[.int .i64 a0_0, .int .i64 a0_1, .slice A0_2 l0_2.length c0_2] 24 (0, 0)) (kI BK121.out)) : gb122 ≠ gb121)); clear BK121; clear HB; have BK121 := n0_; have HB := n1_; have BK122 := n2_; have GW122 := n3_; have GE122 := n4_; have NB121_122 := n5_; have NB122_121 := n6_; clear n0_ n1_ n2_ n3_ n4_ n5_ n6_; clear hb hbox hg) | ((with_reducible refine gC (f := 10) rfl ?_); refine gL (some 14) rfl rfl Try.func10 (by kernel_rfl) rfl #[] rfl (by (try simp only [sm1, sm2, sm3]); first | done | rfl | (simp only [sm4, sm5]; rfl)) ?_; (with_reducible refine (l7alive.calls k  true _ A4.out).mono ?_); rintro e w72 ⟨rfl, hb⟩; refine ⟨_, rfl, ?_⟩; have n0_ := Q9a.mk (kB (g := gb121) (o := .cells #[.int .i64 a0_0, .int .i64 a0_1, .slice A0_2 l0_2.length c0_2] 24 (0, 0)) (kI BK121.out) hb); have n1_ := Q9a.mk (kB (g := gb122) (o := .cells #[.int .i64 a2_0, .int .i64 a2_1] 38 (0, 0)) (kI BK122.out) hb); have n2_ := Q9a.mk (bP (by repeat (first | (with_reducible first | exact HB.out | apply bA | apply bN | apply bD | refine bS ?_ GE121.out | refine bS ?_ GE122.out) | exact HB.out)) hb); clear BK121; clear BK122; clear HB; have BK121 := n0_; have BK122 := n1_; have HB := n2_; clear n0_ n1_ n2_; have hnb73 := NB121_122.out; have hnc73 := NB122_121.out; have hcz74_0 : w72.cell? ⟨gb121, 0, none⟩ = some (.int .i64 a0_0) := (kC BK121.out 0).trans rfl; have hcz74_1 : w72.cell? ⟨gb121, 1, none⟩ = some (.int .i64 a0_1) := (kC BK121.out 1).trans rfl; have hcz74_2 : w72.cell? ⟨gb121, 2, none⟩ = some (.slice A0_2 l0_2.length c0_2) := (kC BK121.out 2).trans rfl; have hfz74_0 := kF BK121.out 0; have hfz74_1 := kF BK121.out 1; have hfz74_2 := kF BK121.out 2) | ((with_reducible refine gC (f := 11) rfl ?_); refine gL (some 17) rfl rfl Try.func11 (by kernel_rfl) rfl #[.agg #[.int .i64 a0_0, .int .i64 a0_1, .slice A0_2 l0_2.length c0_2]] rfl (by (try simp only [sm1, sm2, sm3]); first | done | rfl | (simp only [sm4, sm5]; rfl)) ?_; (with_reducible refine (l7made.calls a0_0 a0_1 _ _ l0_2 (some q125) _ ?side1 ?side2 A6.out).mono ?_); (case side1 => exact cI HR0_2.out HB.out); (case side2 => exact HC0_2.out); rintro e w75 ⟨b_q125, rfl, hb, hgo⟩; refine ⟨_, rfl, ?_⟩; have n0_ := Q9a.mk (kB (g := gb121) (o := .cells #[.int .i64 a0_0, .int .i64 a0_1, .slice A0_2 l0_2.length c0_2] 24 (0, 0)) (kI BK121.out) hb); have n1_ := Q9a.mk (kB (g := gb122) (o := .cells #[.int .i64 a2_0, .int .i64 a2_1] 38 (0, 0)) (kI BK122.out) hb); have n2_ := Q9a.mk (bP (by repeat (first | (with_reducible first | exact HB.out | apply bA | apply bN | apply bD | refine bS ?_ GE121.out | refine bS ?_ GE122.out) | exact HB.out)) hb); clear BK121; clear BK122; clear HB; have BK121 := n0_; have BK122 := n1_; have HB := n2_; clear n0_ n1_ n2_; (try simp only [gfW_none, gfW_some]); have HBZ := HB; have HRn_ := Q9a.mk (Kd.cB HR0_2.out HB.out); clear HR0_2; have HR0_2 := HRn_; clear HRn_; have HRn_ := Q9a.mk (Kd.cB HR1.out HB.out); clear HR1; have HR1 := HRn_; clear HRn_; clear HB; obtain ⟨wz, rfl⟩ : ∃ z_ : World, z_ = w := ⟨_, rfl⟩; obtain ⟨w, rfl⟩ : ∃ z_ : World, z_ = w75 := ⟨_, rfl⟩; have HB := Q9a.mk (Below.refl w.heap.size w); have HG_q125 := Q9a.mk (hgo : GFok w b_q125 q125); clear hgo))
    have n0_ := Q9a.mk (kD BK121.out);have n1_ := Q9a.mk (kD BK122.out);have n2_ := Q9a.mk (bD HB.out);clear BK121;clear BK122;clear HB;have BK121 := n0_;have BK122 := n1_;have HB := n2_;clear n0_ n1_ n2_;refine start_ (n := 6) (S := fun w' => w'.cell? ⟨gb122, 0, none⟩ = some (.int .i64 a2_0) ∧ w'.cell? ⟨gb122, 1, none⟩ = some (.int .i64 a2_1)) (ds := []) #[fB,fB,fB,fB,fB,fB] (by kernel_rfl) rfl rfl ⟨(kC BK122.out 0).trans rfl, (kC BK122.out 1).trans rfl⟩ (fun hHeld => ?_);generalize w.drew = w76 at BK121 BK122 HB hHeld ⊢;refine pQ 0 18 rfl (by kernel_rfl) ?_;refine pQ 2 20 rfl (by kernel_rfl) ?_;refine tQ 1 19 rfl (by kernel_rfl) hHeld ?_;refine pQ 4 8 rfl (by kernel_rfl) ?_;refine tQ 3 21 rfl (by kernel_rfl) hHeld ?_;refine pQ 5 9 rfl (by kernel_rfl) ?_;refine done_ (by kernel_rfl) ?_;try go_wp2_with (first | ((with_reducible refine gC (f := 33) rfl ?_); refine gL (some 34) rfl rfl Try.func33 (by kernel_rfl) rfl #[.pointer (some ⟨b_q125, 0, none⟩), .slice A1 l1.length c1, .int .i64 a2_0, .int .i64 a2_1] rfl (by (try simp only [sm1, sm2, sm3]); first | done | rfl | (simp only [sm4, sm5]; rfl)) ?_; (with_reducible refine (tower_Coordinates.calls b_q125 q125 _ _ l1 a2_0 a2_1 t126 t127 _ ?side1 ?side2 ?side3 A22.out).mono ?_); (case side1 => exact GFok.belowT HG_q125.out (by repeat (first | (with_reducible first | exact HB.out | apply bA | apply bN | apply bD | refine bS ?_ GE121.out | refine bS ?_ GE122.out) | exact HB.out))); (case side2 => exact cI HR1.out HB.out); (case side3 => exact HC1.out); rintro e w77 ⟨v128, rfl, ho0, hb⟩; refine ⟨_, rfl, ?_⟩; have n0_ := Q9a.mk (Kd.rL ho0 (bZ (by repeat (first | (with_reducible first | exact HB.out | apply bA | apply bN | apply bD | refine bS ?_ GE121.out | refine bS ?_ GE122.out) | exact HB.out)))); have n1_ := Q9a.mk (kB (g := gb121) (o := .cells #[.int .i64 a0_0, .int .i64 a0_1, .slice A0_2 l0_2.length c0_2] 24 (0, 0)) (kI BK121.out) hb); have n2_ := Q9a.mk (kB (g := gb122) (o := .cells #[.int .i64 a2_0, .int .i64 a2_1] 38 (0, 0)) (kI BK122.out) hb); have n3_ := Q9a.mk (bP (by repeat (first | (with_reducible first | exact HB.out | apply bA | apply bN | apply bD | refine bS ?_ GE121.out | refine bS ?_ GE122.out) | exact HB.out)) hb); clear BK121; clear BK122; clear HB; have HO129 := n0_; have BK121 := n1_; have BK122 := n2_; have HB := n3_; clear n0_ n1_ n2_ n3_; (try clear ho0); have hcz78_0 : w77.cell? ⟨gb121, 0, none⟩ = some (.int .i64 a0_0) := (kC BK121.out 0).trans rfl; have hcz78_1 : w77.cell? ⟨gb121, 1, none⟩ = some (.int .i64 a0_1) := (kC BK121.out 1).trans rfl; have hcz78_2 : w77.cell? ⟨gb121, 2, none⟩ = some (.slice A0_2 l0_2.length c0_2) := (kC BK121.out 2).trans rfl; have hfz78_0 := kF BK121.out 0; have hfz78_1 := kF BK121.out 1; have hfz78_2 := kF BK121.out 2) | ((with_reducible refine gC (f := 13) rfl ?_); refine gL (some 40) rfl rfl Try.func13 (by kernel_rfl) rfl #[.agg #[.int .i64 a0_0, .int .i64 a0_1, .slice A0_2 l0_2.length c0_2], .int .i64 a2_0] rfl (by (try simp only [sm1, sm2, sm3]); first | done | rfl | (simp only [sm4, sm5]; rfl)) ?_; (with_reducible refine (r7Divides.calls a0_0 a0_1 _ _ l0_2 a2_0 true _ ?side1 ?side2 A23.out).mono ?_); (case side1 => exact cI HR0_2.out HB.out); (case side2 => exact HC0_2.out); rintro e w79 ⟨rfl, hb⟩; refine ⟨_, rfl, ?_⟩; have n0_ := Q9a.mk (Kd.R_below (rI HO129.out) hb); have n1_ := Q9a.mk (kB (g := gb121) (o := .cells #[.int .i64 a0_0, .int .i64 a0_1, .slice A0_2 l0_2.length c0_2] 24 (0, 0)) (kI BK121.out) hb); have n2_ := Q9a.mk (kB (g := gb122) (o := .cells #[.int .i64 a2_0, .int .i64 a2_1] 38 (0, 0)) (kI BK122.out) hb); have n3_ := Q9a.mk (bP (by repeat (first | (with_reducible first | exact HB.out | apply bA | apply bN | apply bD | refine bS ?_ GE121.out | refine bS ?_ GE122.out) | exact HB.out)) hb); clear HO129; clear BK121; clear BK122; clear HB; have HO129 := n0_; have BK121 := n1_; have BK122 := n2_; have HB := n3_; clear n0_ n1_ n2_ n3_; have hcz80_0 : w79.cell? ⟨gb121, 0, none⟩ = some (.int .i64 a0_0) := (kC BK121.out 0).trans rfl; have hcz80_1 : w79.cell? ⟨gb121, 1, none⟩ = some (.int .i64 a0_1) := (kC BK121.out 1).trans rfl; have hcz80_2 : w79.cell? ⟨gb121, 2, none⟩ = some (.slice A0_2 l0_2.length c0_2) := (kC BK121.out 2).trans rfl; have hfz80_0 := kF BK121.out 0; have hfz80_1 := kF BK121.out 1; have hfz80_2 := kF BK121.out 2) | ((with_reducible refine gC (f := 14) rfl ?_); refine gL (some 53) rfl rfl Try.func14 (by kernel_rfl) rfl #[.agg #[.int .i64 a0_0, .int .i64 a0_1, .slice A0_2 l0_2.length c0_2], .slice A1 l1.length c1, .int .i64 a2_0] rfl (by (try simp only [sm1, sm2, sm3]); first | done | rfl | (simp only [sm4, sm5]; rfl)) ?_; (with_reducible refine (r7IsBasis.calls k a0_0 a0_1 _ _ l0_2 _ _ l1 a2_0 false _ ?side1 ?side2 ?side3 ?side4 A25.out).mono ?_); (case side1 => exact cI HR0_2.out HB.out); (case side2 => exact HC0_2.out); (case side3 => exact cI HR1.out HB.out); (case side4 => exact HC1.out); rintro e w81 ⟨rfl, hb⟩; refine ⟨_, rfl, ?_⟩; have n0_ := Q9a.mk (Kd.R_below (rI HO129.out) hb); have n1_ := Q9a.mk (kB (g := gb121) (o := .cells #[.int .i64 a0_0, .int .i64 a0_1, .slice A0_2 l0_2.length c0_2] 24 (0, 0)) (kI BK121.out) hb); have n2_ := Q9a.mk (kB (g := gb122) (o := .cells #[.int .i64 a2_0, .int .i64 a2_1] 38 (0, 0)) (kI BK122.out) hb); have n3_ := Q9a.mk (bP (by repeat (first | (with_reducible first | exact HB.out | apply bA | apply bN | apply bD | refine bS ?_ GE121.out | refine bS ?_ GE122.out) | exact HB.out)) hb); clear HO129; clear BK121; clear BK122; clear HB; have HO129 := n0_; have BK121 := n1_; have BK122 := n2_; have HB := n3_; clear n0_ n1_ n2_ n3_; obtain ⟨Ao82, co82, eo82⟩ := Kd.R_slice HO129.out; subst eo82))
    go_ret
    exact ⟨by first | rfl | (simp [*, eN, eS] <;> rfl), belowZ HBZ.out (by repeat (first | (with_reducible first | exact HB.out | apply bA | apply bN | apply bD | refine bS ?_ GE121.out | refine bS ?_ GE122.out) | exact HB.out))⟩
   rw [if_neg c69] at H;have c69b0 : (t127 == 9) = false := beq_eq_false_iff_ne.mpr c69;have c69b1 : (t127 != 9) = true := bne_iff_ne.mpr c69;obtain rfl := Option.some.inj H;go_enter Try.func9, Try.ntmps9
   try go_wp2_with (first | ((with_reducible refine gD (N := 3) rfl ?_); (try (refine gG (by rfl) ?_; dsimp only)); refine bE ?hg (N := 3) ?hd (cs := #[.int .i64 a0_0, .int .i64 a0_1, .slice A0_2 l0_2.length c0_2]) (t := 24) ?hr ?_; (case hd => rfl); (case hg => rfl); (case hr => first | (go_simp; done) | (go_simp; rfl)); intro gb121 hg w83 hbox hb; have n0_ := Q9a.mk (bP (bI HB.out) hb); have n1_ := Q9a.mk (hbox); have n2_ := Q9a.mk ((by rw [hg]; exact (bZ (bI HB.out)) : w.heap.size ≤ gb121)); have n3_ := n2_; clear HB; have HB := n0_; have BK121 := n1_; have GW121 := n2_; have GE121 := n3_; clear n0_ n1_ n2_ n3_; clear hb hbox hg) | ((with_reducible refine gD (N := 5) rfl ?_); (try (refine gG (by rfl) ?_; dsimp only)); refine bE ?hg (N := 5) ?hd (cs := #[.int .i64 a2_0, .int .i64 a2_1]) (t := 38) ?hr ?_; (case hd => rfl); (case hg => rfl); (case hr => first | (go_simp; done) | (go_simp; rfl)); intro gb122 hg w84 hbox hb; have n0_ := Q9a.mk (kB (g := gb121) (o := .cells #[.int .i64 a0_0, .int .i64 a0_1, .slice A0_2 l0_2.length c0_2] 24 (0, 0)) (kI BK121.out) hb); have n1_ := Q9a.mk (bP (bJ HB.out GE121.out) hb); have n2_ := Q9a.mk (hbox); have n3_ := Q9a.mk ((by rw [hg]; exact (bZ (bJ HB.out GE121.out)) : w.heap.size ≤ gb122)); have n4_ := n3_; have n5_ := Q9a.mk ((by rw [hg]; exact Nat.ne_of_lt (blk_lt (g := gb121) (o := .cells #[.int .i64 a0_0, .int .i64 a0_1, .slice A0_2 l0_2.length c0_2] 24 (0, 0)) (kI BK121.out)) : gb121 ≠ gb122)); have n6_ := Q9a.mk ((by rw [hg]; exact Nat.ne_of_gt (blk_lt (g := gb121) (o := .cells #[.int .i64 a0_0, .int .i64 a0_1, .slice A0_2 l0_2.length c0_2] 24 (0, 0)) (kI BK121.out)) : gb122 ≠ gb121)); clear BK121; clear HB; have BK121 := n0_; have HB := n1_; have BK122 := n2_; have GW122 := n3_; have GE122 := n4_; have NB121_122 := n5_; have NB122_121 := n6_; clear n0_ n1_ n2_ n3_ n4_ n5_ n6_; clear hb hbox hg) | ((with_reducible refine gC (f := 10) rfl ?_); refine gL (some 14) rfl rfl Try.func10 (by kernel_rfl) rfl #[] rfl (by (try simp only [sm1, sm2, sm3]); first | done | rfl | (simp only [sm4, sm5]; rfl)) ?_; (with_reducible refine (l7alive.calls k  true _ A4.out).mono ?_); rintro e w85 ⟨rfl, hb⟩; refine ⟨_, rfl, ?_⟩; have n0_ := Q9a.mk (kB (g := gb121) (o := .cells #[.int .i64 a0_0, .int .i64 a0_1, .slice A0_2 l0_2.length c0_2] 24 (0, 0)) (kI BK121.out) hb); have n1_ := Q9a.mk (kB (g := gb122) (o := .cells #[.int .i64 a2_0, .int .i64 a2_1] 38 (0, 0)) (kI BK122.out) hb); have n2_ := Q9a.mk (bP (by repeat (first | (with_reducible first | exact HB.out | apply bA | apply bN | apply bD | refine bS ?_ GE121.out | refine bS ?_ GE122.out) | exact HB.out)) hb); clear BK121; clear BK122; clear HB; have BK121 := n0_; have BK122 := n1_; have HB := n2_; clear n0_ n1_ n2_; have hnb86 := NB121_122.out; have hnc86 := NB122_121.out; have hcz87_0 : w85.cell? ⟨gb121, 0, none⟩ = some (.int .i64 a0_0) := (kC BK121.out 0).trans rfl; have hcz87_1 : w85.cell? ⟨gb121, 1, none⟩ = some (.int .i64 a0_1) := (kC BK121.out 1).trans rfl; have hcz87_2 : w85.cell? ⟨gb121, 2, none⟩ = some (.slice A0_2 l0_2.length c0_2) := (kC BK121.out 2).trans rfl; have hfz87_0 := kF BK121.out 0; have hfz87_1 := kF BK121.out 1; have hfz87_2 := kF BK121.out 2) | ((with_reducible refine gC (f := 11) rfl ?_); refine gL (some 17) rfl rfl Try.func11 (by kernel_rfl) rfl #[.agg #[.int .i64 a0_0, .int .i64 a0_1, .slice A0_2 l0_2.length c0_2]] rfl (by (try simp only [sm1, sm2, sm3]); first | done | rfl | (simp only [sm4, sm5]; rfl)) ?_; (with_reducible refine (l7made.calls a0_0 a0_1 _ _ l0_2 (some q125) _ ?side1 ?side2 A6.out).mono ?_); (case side1 => exact cI HR0_2.out HB.out); (case side2 => exact HC0_2.out); rintro e w88 ⟨b_q125, rfl, hb, hgo⟩; refine ⟨_, rfl, ?_⟩; have n0_ := Q9a.mk (kB (g := gb121) (o := .cells #[.int .i64 a0_0, .int .i64 a0_1, .slice A0_2 l0_2.length c0_2] 24 (0, 0)) (kI BK121.out) hb); have n1_ := Q9a.mk (kB (g := gb122) (o := .cells #[.int .i64 a2_0, .int .i64 a2_1] 38 (0, 0)) (kI BK122.out) hb); have n2_ := Q9a.mk (bP (by repeat (first | (with_reducible first | exact HB.out | apply bA | apply bN | apply bD | refine bS ?_ GE121.out | refine bS ?_ GE122.out) | exact HB.out)) hb); clear BK121; clear BK122; clear HB; have BK121 := n0_; have BK122 := n1_; have HB := n2_; clear n0_ n1_ n2_; (try simp only [gfW_none, gfW_some]); have HBZ := HB; have HRn_ := Q9a.mk (Kd.cB HR0_2.out HB.out); clear HR0_2; have HR0_2 := HRn_; clear HRn_; have HRn_ := Q9a.mk (Kd.cB HR1.out HB.out); clear HR1; have HR1 := HRn_; clear HRn_; clear HB; obtain ⟨wz, rfl⟩ : ∃ z_ : World, z_ = w := ⟨_, rfl⟩; obtain ⟨w, rfl⟩ : ∃ z_ : World, z_ = w88 := ⟨_, rfl⟩; have HB := Q9a.mk (Below.refl w.heap.size w); have HG_q125 := Q9a.mk (hgo : GFok w b_q125 q125); clear hgo))
   have n0_ := Q9a.mk (kD BK121.out);have n1_ := Q9a.mk (kD BK122.out);have n2_ := Q9a.mk (bD HB.out);clear BK121;clear BK122;clear HB;have BK121 := n0_;have BK122 := n1_;have HB := n2_;clear n0_ n1_ n2_;refine start_ (n := 6) (S := fun w' => w'.cell? ⟨gb122, 0, none⟩ = some (.int .i64 a2_0) ∧ w'.cell? ⟨gb122, 1, none⟩ = some (.int .i64 a2_1)) (ds := []) #[fB,fB,fB,fB,fB,fB] (by kernel_rfl) rfl rfl ⟨(kC BK122.out 0).trans rfl, (kC BK122.out 1).trans rfl⟩ (fun hHeld => ?_);generalize w.drew = w89 at BK121 BK122 HB hHeld ⊢;refine pQ 0 18 rfl (by kernel_rfl) ?_;refine pQ 2 20 rfl (by kernel_rfl) ?_;refine tQ 1 19 rfl (by kernel_rfl) hHeld ?_;refine pQ 4 8 rfl (by kernel_rfl) ?_;refine tQ 3 21 rfl (by kernel_rfl) hHeld ?_;refine pQ 5 9 rfl (by kernel_rfl) ?_;refine done_ (by kernel_rfl) ?_;try go_wp2_with (first | ((with_reducible refine gC (f := 33) rfl ?_); refine gL (some 34) rfl rfl Try.func33 (by kernel_rfl) rfl #[.pointer (some ⟨b_q125, 0, none⟩), .slice A1 l1.length c1, .int .i64 a2_0, .int .i64 a2_1] rfl (by (try simp only [sm1, sm2, sm3]); first | done | rfl | (simp only [sm4, sm5]; rfl)) ?_; (with_reducible refine (tower_Coordinates.calls b_q125 q125 _ _ l1 a2_0 a2_1 t126 t127 _ ?side1 ?side2 ?side3 A22.out).mono ?_); (case side1 => exact GFok.belowT HG_q125.out (by repeat (first | (with_reducible first | exact HB.out | apply bA | apply bN | apply bD | refine bS ?_ GE121.out | refine bS ?_ GE122.out) | exact HB.out))); (case side2 => exact cI HR1.out HB.out); (case side3 => exact HC1.out); rintro e w90 ⟨v128, rfl, ho0, hb⟩; refine ⟨_, rfl, ?_⟩; have n0_ := Q9a.mk (Kd.rL ho0 (bZ (by repeat (first | (with_reducible first | exact HB.out | apply bA | apply bN | apply bD | refine bS ?_ GE121.out | refine bS ?_ GE122.out) | exact HB.out)))); have n1_ := Q9a.mk (kB (g := gb121) (o := .cells #[.int .i64 a0_0, .int .i64 a0_1, .slice A0_2 l0_2.length c0_2] 24 (0, 0)) (kI BK121.out) hb); have n2_ := Q9a.mk (kB (g := gb122) (o := .cells #[.int .i64 a2_0, .int .i64 a2_1] 38 (0, 0)) (kI BK122.out) hb); have n3_ := Q9a.mk (bP (by repeat (first | (with_reducible first | exact HB.out | apply bA | apply bN | apply bD | refine bS ?_ GE121.out | refine bS ?_ GE122.out) | exact HB.out)) hb); clear BK121; clear BK122; clear HB; have HO129 := n0_; have BK121 := n1_; have BK122 := n2_; have HB := n3_; clear n0_ n1_ n2_ n3_; (try clear ho0); have hcz91_0 : w90.cell? ⟨gb121, 0, none⟩ = some (.int .i64 a0_0) := (kC BK121.out 0).trans rfl; have hcz91_1 : w90.cell? ⟨gb121, 1, none⟩ = some (.int .i64 a0_1) := (kC BK121.out 1).trans rfl; have hcz91_2 : w90.cell? ⟨gb121, 2, none⟩ = some (.slice A0_2 l0_2.length c0_2) := (kC BK121.out 2).trans rfl; have hfz91_0 := kF BK121.out 0; have hfz91_1 := kF BK121.out 1; have hfz91_2 := kF BK121.out 2) | ((with_reducible refine gC (f := 13) rfl ?_); refine gL (some 40) rfl rfl Try.func13 (by kernel_rfl) rfl #[.agg #[.int .i64 a0_0, .int .i64 a0_1, .slice A0_2 l0_2.length c0_2], .int .i64 a2_0] rfl (by (try simp only [sm1, sm2, sm3]); first | done | rfl | (simp only [sm4, sm5]; rfl)) ?_; (with_reducible refine (r7Divides.calls a0_0 a0_1 _ _ l0_2 a2_0 true _ ?side1 ?side2 A23.out).mono ?_); (case side1 => exact cI HR0_2.out HB.out); (case side2 => exact HC0_2.out); rintro e w92 ⟨rfl, hb⟩; refine ⟨_, rfl, ?_⟩; have n0_ := Q9a.mk (Kd.R_below (rI HO129.out) hb); have n1_ := Q9a.mk (kB (g := gb121) (o := .cells #[.int .i64 a0_0, .int .i64 a0_1, .slice A0_2 l0_2.length c0_2] 24 (0, 0)) (kI BK121.out) hb); have n2_ := Q9a.mk (kB (g := gb122) (o := .cells #[.int .i64 a2_0, .int .i64 a2_1] 38 (0, 0)) (kI BK122.out) hb); have n3_ := Q9a.mk (bP (by repeat (first | (with_reducible first | exact HB.out | apply bA | apply bN | apply bD | refine bS ?_ GE121.out | refine bS ?_ GE122.out) | exact HB.out)) hb); clear HO129; clear BK121; clear BK122; clear HB; have HO129 := n0_; have BK121 := n1_; have BK122 := n2_; have HB := n3_; clear n0_ n1_ n2_ n3_; have hcz93_0 : w92.cell? ⟨gb121, 0, none⟩ = some (.int .i64 a0_0) := (kC BK121.out 0).trans rfl; have hcz93_1 : w92.cell? ⟨gb121, 1, none⟩ = some (.int .i64 a0_1) := (kC BK121.out 1).trans rfl; have hcz93_2 : w92.cell? ⟨gb121, 2, none⟩ = some (.slice A0_2 l0_2.length c0_2) := (kC BK121.out 2).trans rfl; have hfz93_0 := kF BK121.out 0; have hfz93_1 := kF BK121.out 1; have hfz93_2 := kF BK121.out 2) | ((with_reducible refine gC (f := 14) rfl ?_); refine gL (some 53) rfl rfl Try.func14 (by kernel_rfl) rfl #[.agg #[.int .i64 a0_0, .int .i64 a0_1, .slice A0_2 l0_2.length c0_2], .slice A1 l1.length c1, .int .i64 a2_0] rfl (by (try simp only [sm1, sm2, sm3]); first | done | rfl | (simp only [sm4, sm5]; rfl)) ?_; (with_reducible refine (r7IsBasis.calls k a0_0 a0_1 _ _ l0_2 _ _ l1 a2_0 false _ ?side1 ?side2 ?side3 ?side4 A25.out).mono ?_); (case side1 => exact cI HR0_2.out HB.out); (case side2 => exact HC0_2.out); (case side3 => exact cI HR1.out HB.out); (case side4 => exact HC1.out); rintro e w94 ⟨rfl, hb⟩; refine ⟨_, rfl, ?_⟩; have n0_ := Q9a.mk (Kd.R_below (rI HO129.out) hb); have n1_ := Q9a.mk (kB (g := gb121) (o := .cells #[.int .i64 a0_0, .int .i64 a0_1, .slice A0_2 l0_2.length c0_2] 24 (0, 0)) (kI BK121.out) hb); have n2_ := Q9a.mk (kB (g := gb122) (o := .cells #[.int .i64 a2_0, .int .i64 a2_1] 38 (0, 0)) (kI BK122.out) hb); have n3_ := Q9a.mk (bP (by repeat (first | (with_reducible first | exact HB.out | apply bA | apply bN | apply bD | refine bS ?_ GE121.out | refine bS ?_ GE122.out) | exact HB.out)) hb); clear HO129; clear BK121; clear BK122; clear HB; have HO129 := n0_; have BK121 := n1_; have BK122 := n2_; have HB := n3_; clear n0_ n1_ n2_ n3_; (try clear hb); (try clear hb2); (try clear hk); (try clear hi)))
   go_ret
   exact ⟨by first | rfl | (simp [*, eN, eS] <;> rfl), belowZ HBZ.out (by repeat (first | (with_reducible first | exact HB.out | apply bA | apply bN | apply bD | refine bS ?_ GE121.out | refine bS ?_ GE122.out) | exact HB.out))⟩
  replace c24 := Bool.eq_false_iff.mpr c24;subst c24;have H1 : (if t127 = 6 then (some ((t126.length : Int) == 0)) else (some false)) = some r := by rw [if_neg (show ¬ (false = true) by decide)] at H; exact H
  clear H;have H := H1;clear H1;by_cases c95 : t127 = 6
  ·rw [if_pos c95] at H;have c95b0 : (t127 == 6) = true := beq_iff_eq.mpr c95;have c95b1 : (t127 != 6) = false := bne_eq_false_iff_eq.mpr c95;clear c95;obtain rfl := Option.some.inj H;go_enter Try.func9, Try.ntmps9
   try go_wp2_with (first | ((with_reducible refine gD (N := 3) rfl ?_); (try (refine gG (by rfl) ?_; dsimp only)); refine bE ?hg (N := 3) ?hd (cs := #[.int .i64 a0_0, .int .i64 a0_1, .slice A0_2 l0_2.length c0_2]) (t := 24) ?hr ?_; (case hd => rfl); (case hg => rfl); (case hr => first | (go_simp; done) | (go_simp; rfl)); intro gb121 hg w96 hbox hb; have n0_ := Q9a.mk (bP (bI HB.out) hb); have n1_ := Q9a.mk (hbox); have n2_ := Q9a.mk ((by rw [hg]; exact (bZ (bI HB.out)) : w.heap.size ≤ gb121)); have n3_ := n2_; clear HB; have HB := n0_; have BK121 := n1_; have GW121 := n2_; have GE121 := n3_; clear n0_ n1_ n2_ n3_; clear hb hbox hg) | ((with_reducible refine gD (N := 5) rfl ?_); (try (refine gG (by rfl) ?_; dsimp only)); refine bE ?hg (N := 5) ?hd (cs := #[.int .i64 a2_0, .int .i64 a2_1]) (t := 38) ?hr ?_; (case hd => rfl); (case hg => rfl); (case hr => first | (go_simp; done) | (go_simp; rfl)); intro gb122 hg w97 hbox hb; have n0_ := Q9a.mk (kB (g := gb121) (o := .cells #[.int .i64 a0_0, .int .i64 a0_1, .slice A0_2 l0_2.length c0_2] 24 (0, 0)) (kI BK121.out) hb); have n1_ := Q9a.mk (bP (bJ HB.out GE121.out) hb); have n2_ := Q9a.mk (hbox); have n3_ := Q9a.mk ((by rw [hg]; exact (bZ (bJ HB.out GE121.out)) : w.heap.size ≤ gb122)); have n4_ := n3_; have n5_ := Q9a.mk ((by rw [hg]; exact Nat.ne_of_lt (blk_lt (g := gb121) (o := .cells #[.int .i64 a0_0, .int .i64 a0_1, .slice A0_2 l0_2.length c0_2] 24 (0, 0)) (kI BK121.out)) : gb121 ≠ gb122)); have n6_ := Q9a.mk ((by rw [hg]; exact Nat.ne_of_gt (blk_lt (g := gb121) (o := .cells #[.int .i64 a0_0, .int .i64 a0_1, .slice A0_2 l0_2.length c0_2] 24 (0, 0)) (kI BK121.out)) : gb122 ≠ gb121)); clear BK121; clear HB; have BK121 := n0_; have HB := n1_; have BK122 := n2_; have GW122 := n3_; have GE122 := n4_; have NB121_122 := n5_; have NB122_121 := n6_; clear n0_ n1_ n2_ n3_ n4_ n5_ n6_; clear hb hbox hg) | ((with_reducible refine gC (f := 10) rfl ?_); refine gL (some 14) rfl rfl Try.func10 (by kernel_rfl) rfl #[] rfl (by (try simp only [sm1, sm2, sm3]); first | done | rfl | (simp only [sm4, sm5]; rfl)) ?_; (with_reducible refine (l7alive.calls k  true _ A4.out).mono ?_); rintro e w98 ⟨rfl, hb⟩; refine ⟨_, rfl, ?_⟩; have n0_ := Q9a.mk (kB (g := gb121) (o := .cells #[.int .i64 a0_0, .int .i64 a0_1, .slice A0_2 l0_2.length c0_2] 24 (0, 0)) (kI BK121.out) hb); have n1_ := Q9a.mk (kB (g := gb122) (o := .cells #[.int .i64 a2_0, .int .i64 a2_1] 38 (0, 0)) (kI BK122.out) hb); have n2_ := Q9a.mk (bP (by repeat (first | (with_reducible first | exact HB.out | apply bA | apply bN | apply bD | refine bS ?_ GE121.out | refine bS ?_ GE122.out) | exact HB.out)) hb); clear BK121; clear BK122; clear HB; have BK121 := n0_; have BK122 := n1_; have HB := n2_; clear n0_ n1_ n2_; have hnb99 := NB121_122.out; have hnc99 := NB122_121.out; have hcz100_0 : w98.cell? ⟨gb121, 0, none⟩ = some (.int .i64 a0_0) := (kC BK121.out 0).trans rfl; have hcz100_1 : w98.cell? ⟨gb121, 1, none⟩ = some (.int .i64 a0_1) := (kC BK121.out 1).trans rfl; have hcz100_2 : w98.cell? ⟨gb121, 2, none⟩ = some (.slice A0_2 l0_2.length c0_2) := (kC BK121.out 2).trans rfl; have hfz100_0 := kF BK121.out 0; have hfz100_1 := kF BK121.out 1; have hfz100_2 := kF BK121.out 2) | ((with_reducible refine gC (f := 11) rfl ?_); refine gL (some 17) rfl rfl Try.func11 (by kernel_rfl) rfl #[.agg #[.int .i64 a0_0, .int .i64 a0_1, .slice A0_2 l0_2.length c0_2]] rfl (by (try simp only [sm1, sm2, sm3]); first | done | rfl | (simp only [sm4, sm5]; rfl)) ?_; (with_reducible refine (l7made.calls a0_0 a0_1 _ _ l0_2 (some q125) _ ?side1 ?side2 A6.out).mono ?_); (case side1 => exact cI HR0_2.out HB.out); (case side2 => exact HC0_2.out); rintro e w101 ⟨b_q125, rfl, hb, hgo⟩; refine ⟨_, rfl, ?_⟩; have n0_ := Q9a.mk (kB (g := gb121) (o := .cells #[.int .i64 a0_0, .int .i64 a0_1, .slice A0_2 l0_2.length c0_2] 24 (0, 0)) (kI BK121.out) hb); have n1_ := Q9a.mk (kB (g := gb122) (o := .cells #[.int .i64 a2_0, .int .i64 a2_1] 38 (0, 0)) (kI BK122.out) hb); have n2_ := Q9a.mk (bP (by repeat (first | (with_reducible first | exact HB.out | apply bA | apply bN | apply bD | refine bS ?_ GE121.out | refine bS ?_ GE122.out) | exact HB.out)) hb); clear BK121; clear BK122; clear HB; have BK121 := n0_; have BK122 := n1_; have HB := n2_; clear n0_ n1_ n2_; (try simp only [gfW_none, gfW_some]); have HBZ := HB; have HRn_ := Q9a.mk (Kd.cB HR0_2.out HB.out); clear HR0_2; have HR0_2 := HRn_; clear HRn_; have HRn_ := Q9a.mk (Kd.cB HR1.out HB.out); clear HR1; have HR1 := HRn_; clear HRn_; clear HB; obtain ⟨wz, rfl⟩ : ∃ z_ : World, z_ = w := ⟨_, rfl⟩; obtain ⟨w, rfl⟩ : ∃ z_ : World, z_ = w101 := ⟨_, rfl⟩; have HB := Q9a.mk (Below.refl w.heap.size w); have HG_q125 := Q9a.mk (hgo : GFok w b_q125 q125); clear hgo))
   have n0_ := Q9a.mk (kD BK121.out);have n1_ := Q9a.mk (kD BK122.out);have n2_ := Q9a.mk (bD HB.out);clear BK121;clear BK122;clear HB;have BK121 := n0_;have BK122 := n1_;have HB := n2_;clear n0_ n1_ n2_;refine start_ (n := 6) (S := fun w' => w'.cell? ⟨gb122, 0, none⟩ = some (.int .i64 a2_0) ∧ w'.cell? ⟨gb122, 1, none⟩ = some (.int .i64 a2_1)) (ds := []) #[fB,fB,fB,fB,fB,fB] (by kernel_rfl) rfl rfl ⟨(kC BK122.out 0).trans rfl, (kC BK122.out 1).trans rfl⟩ (fun hHeld => ?_);generalize w.drew = w102 at BK121 BK122 HB hHeld ⊢;refine pQ 0 18 rfl (by kernel_rfl) ?_;refine pQ 2 20 rfl (by kernel_rfl) ?_;refine tQ 1 19 rfl (by kernel_rfl) hHeld ?_;refine pQ 4 8 rfl (by kernel_rfl) ?_;refine tQ 3 21 rfl (by kernel_rfl) hHeld ?_;refine pQ 5 9 rfl (by kernel_rfl) ?_;refine done_ (by kernel_rfl) ?_;try go_wp2_with (first | ((with_reducible refine gC (f := 33) rfl ?_); refine gL (some 34) rfl rfl Try.func33 (by kernel_rfl) rfl #[.pointer (some ⟨b_q125, 0, none⟩), .slice A1 l1.length c1, .int .i64 a2_0, .int .i64 a2_1] rfl (by (try simp only [sm1, sm2, sm3]); first | done | rfl | (simp only [sm4, sm5]; rfl)) ?_; (with_reducible refine (tower_Coordinates.calls b_q125 q125 _ _ l1 a2_0 a2_1 t126 t127 _ ?side1 ?side2 ?side3 A22.out).mono ?_); (case side1 => exact GFok.belowT HG_q125.out (by repeat (first | (with_reducible first | exact HB.out | apply bA | apply bN | apply bD | refine bS ?_ GE121.out | refine bS ?_ GE122.out) | exact HB.out))); (case side2 => exact cI HR1.out HB.out); (case side3 => exact HC1.out); rintro e w103 ⟨v128, rfl, ho0, hb⟩; refine ⟨_, rfl, ?_⟩; have n0_ := Q9a.mk (Kd.rL ho0 (bZ (by repeat (first | (with_reducible first | exact HB.out | apply bA | apply bN | apply bD | refine bS ?_ GE121.out | refine bS ?_ GE122.out) | exact HB.out)))); have n1_ := Q9a.mk (kB (g := gb121) (o := .cells #[.int .i64 a0_0, .int .i64 a0_1, .slice A0_2 l0_2.length c0_2] 24 (0, 0)) (kI BK121.out) hb); have n2_ := Q9a.mk (kB (g := gb122) (o := .cells #[.int .i64 a2_0, .int .i64 a2_1] 38 (0, 0)) (kI BK122.out) hb); have n3_ := Q9a.mk (bP (by repeat (first | (with_reducible first | exact HB.out | apply bA | apply bN | apply bD | refine bS ?_ GE121.out | refine bS ?_ GE122.out) | exact HB.out)) hb); clear BK121; clear BK122; clear HB; have HO129 := n0_; have BK121 := n1_; have BK122 := n2_; have HB := n3_; clear n0_ n1_ n2_ n3_; (try clear ho0); have hcz104_0 : w103.cell? ⟨gb121, 0, none⟩ = some (.int .i64 a0_0) := (kC BK121.out 0).trans rfl; have hcz104_1 : w103.cell? ⟨gb121, 1, none⟩ = some (.int .i64 a0_1) := (kC BK121.out 1).trans rfl; have hcz104_2 : w103.cell? ⟨gb121, 2, none⟩ = some (.slice A0_2 l0_2.length c0_2) := (kC BK121.out 2).trans rfl; have hfz104_0 := kF BK121.out 0; have hfz104_1 := kF BK121.out 1; have hfz104_2 := kF BK121.out 2) | ((with_reducible refine gC (f := 13) rfl ?_); refine gL (some 40) rfl rfl Try.func13 (by kernel_rfl) rfl #[.agg #[.int .i64 a0_0, .int .i64 a0_1, .slice A0_2 l0_2.length c0_2], .int .i64 a2_0] rfl (by (try simp only [sm1, sm2, sm3]); first | done | rfl | (simp only [sm4, sm5]; rfl)) ?_; (with_reducible refine (r7Divides.calls a0_0 a0_1 _ _ l0_2 a2_0 false _ ?side1 ?side2 A23.out).mono ?_); (case side1 => exact cI HR0_2.out HB.out); (case side2 => exact HC0_2.out); rintro e w105 ⟨rfl, hb⟩; refine ⟨_, rfl, ?_⟩; have n0_ := Q9a.mk (Kd.R_below (rI HO129.out) hb); have n1_ := Q9a.mk (kB (g := gb121) (o := .cells #[.int .i64 a0_0, .int .i64 a0_1, .slice A0_2 l0_2.length c0_2] 24 (0, 0)) (kI BK121.out) hb); have n2_ := Q9a.mk (kB (g := gb122) (o := .cells #[.int .i64 a2_0, .int .i64 a2_1] 38 (0, 0)) (kI BK122.out) hb); have n3_ := Q9a.mk (bP (by repeat (first | (with_reducible first | exact HB.out | apply bA | apply bN | apply bD | refine bS ?_ GE121.out | refine bS ?_ GE122.out) | exact HB.out)) hb); clear HO129; clear BK121; clear BK122; clear HB; have HO129 := n0_; have BK121 := n1_; have BK122 := n2_; have HB := n3_; clear n0_ n1_ n2_ n3_; obtain ⟨Ao106, co106, eo106⟩ := Kd.R_slice HO129.out; subst eo106))
   go_ret
   exact ⟨by first | rfl | (simp [*, eN, eS] <;> rfl), belowZ HBZ.out (by repeat (first | (with_reducible first | exact HB.out | apply bA | apply bN | apply bD | refine bS ?_ GE121.out | refine bS ?_ GE122.out) | exact HB.out))⟩
  rw [if_neg c95] at H;have c95b0 : (t127 == 6) = false := beq_eq_false_iff_ne.mpr c95;have c95b1 : (t127 != 6) = true := bne_iff_ne.mpr c95;obtain rfl := Option.some.inj H;go_enter Try.func9, Try.ntmps9
  try go_wp2_with (first | ((with_reducible refine gD (N := 3) rfl ?_); (try (refine gG (by rfl) ?_; dsimp only)); refine bE ?hg (N := 3) ?hd (cs := #[.int .i64 a0_0, .int .i64 a0_1, .slice A0_2 l0_2.length c0_2]) (t := 24) ?hr ?_; (case hd => rfl); (case hg => rfl); (case hr => first | (go_simp; done) | (go_simp; rfl)); intro gb121 hg w107 hbox hb; have n0_ := Q9a.mk (bP (bI HB.out) hb); have n1_ := Q9a.mk (hbox); have n2_ := Q9a.mk ((by rw [hg]; exact (bZ (bI HB.out)) : w.heap.size ≤ gb121)); have n3_ := n2_; clear HB; have HB := n0_; have BK121 := n1_; have GW121 := n2_; have GE121 := n3_; clear n0_ n1_ n2_ n3_; clear hb hbox hg) | ((with_reducible refine gD (N := 5) rfl ?_); (try (refine gG (by rfl) ?_; dsimp only)); refine bE ?hg (N := 5) ?hd (cs := #[.int .i64 a2_0, .int .i64 a2_1]) (t := 38) ?hr ?_; (case hd => rfl); (case hg => rfl); (case hr => first | (go_simp; done) | (go_simp; rfl)); intro gb122 hg w108 hbox hb; have n0_ := Q9a.mk (kB (g := gb121) (o := .cells #[.int .i64 a0_0, .int .i64 a0_1, .slice A0_2 l0_2.length c0_2] 24 (0, 0)) (kI BK121.out) hb); have n1_ := Q9a.mk (bP (bJ HB.out GE121.out) hb); have n2_ := Q9a.mk (hbox); have n3_ := Q9a.mk ((by rw [hg]; exact (bZ (bJ HB.out GE121.out)) : w.heap.size ≤ gb122)); have n4_ := n3_; have n5_ := Q9a.mk ((by rw [hg]; exact Nat.ne_of_lt (blk_lt (g := gb121) (o := .cells #[.int .i64 a0_0, .int .i64 a0_1, .slice A0_2 l0_2.length c0_2] 24 (0, 0)) (kI BK121.out)) : gb121 ≠ gb122)); have n6_ := Q9a.mk ((by rw [hg]; exact Nat.ne_of_gt (blk_lt (g := gb121) (o := .cells #[.int .i64 a0_0, .int .i64 a0_1, .slice A0_2 l0_2.length c0_2] 24 (0, 0)) (kI BK121.out)) : gb122 ≠ gb121)); clear BK121; clear HB; have BK121 := n0_; have HB := n1_; have BK122 := n2_; have GW122 := n3_; have GE122 := n4_; have NB121_122 := n5_; have NB122_121 := n6_; clear n0_ n1_ n2_ n3_ n4_ n5_ n6_; clear hb hbox hg) | ((with_reducible refine gC (f := 10) rfl ?_); refine gL (some 14) rfl rfl Try.func10 (by kernel_rfl) rfl #[] rfl (by (try simp only [sm1, sm2, sm3]); first | done | rfl | (simp only [sm4, sm5]; rfl)) ?_; (with_reducible refine (l7alive.calls k  true _ A4.out).mono ?_); rintro e w109 ⟨rfl, hb⟩; refine ⟨_, rfl, ?_⟩; have n0_ := Q9a.mk (kB (g := gb121) (o := .cells #[.int .i64 a0_0, .int .i64 a0_1, .slice A0_2 l0_2.length c0_2] 24 (0, 0)) (kI BK121.out) hb); have n1_ := Q9a.mk (kB (g := gb122) (o := .cells #[.int .i64 a2_0, .int .i64 a2_1] 38 (0, 0)) (kI BK122.out) hb); have n2_ := Q9a.mk (bP (by repeat (first | (with_reducible first | exact HB.out | apply bA | apply bN | apply bD | refine bS ?_ GE121.out | refine bS ?_ GE122.out) | exact HB.out)) hb); clear BK121; clear BK122; clear HB; have BK121 := n0_; have BK122 := n1_; have HB := n2_; clear n0_ n1_ n2_; have hnb110 := NB121_122.out; have hnc110 := NB122_121.out; have hcz111_0 : w109.cell? ⟨gb121, 0, none⟩ = some (.int .i64 a0_0) := (kC BK121.out 0).trans rfl; have hcz111_1 : w109.cell? ⟨gb121, 1, none⟩ = some (.int .i64 a0_1) := (kC BK121.out 1).trans rfl; have hcz111_2 : w109.cell? ⟨gb121, 2, none⟩ = some (.slice A0_2 l0_2.length c0_2) := (kC BK121.out 2).trans rfl; have hfz111_0 := kF BK121.out 0; have hfz111_1 := kF BK121.out 1; have hfz111_2 := kF BK121.out 2) | ((with_reducible refine gC (f := 11) rfl ?_); refine gL (some 17) rfl rfl Try.func11 (by kernel_rfl) rfl #[.agg #[.int .i64 a0_0, .int .i64 a0_1, .slice A0_2 l0_2.length c0_2]] rfl (by (try simp only [sm1, sm2, sm3]); first | done | rfl | (simp only [sm4, sm5]; rfl)) ?_; (with_reducible refine (l7made.calls a0_0 a0_1 _ _ l0_2 (some q125) _ ?side1 ?side2 A6.out).mono ?_); (case side1 => exact cI HR0_2.out HB.out); (case side2 => exact HC0_2.out); rintro e w112 ⟨b_q125, rfl, hb, hgo⟩; refine ⟨_, rfl, ?_⟩; have n0_ := Q9a.mk (kB (g := gb121) (o := .cells #[.int .i64 a0_0, .int .i64 a0_1, .slice A0_2 l0_2.length c0_2] 24 (0, 0)) (kI BK121.out) hb); have n1_ := Q9a.mk (kB (g := gb122) (o := .cells #[.int .i64 a2_0, .int .i64 a2_1] 38 (0, 0)) (kI BK122.out) hb); have n2_ := Q9a.mk (bP (by repeat (first | (with_reducible first | exact HB.out | apply bA | apply bN | apply bD | refine bS ?_ GE121.out | refine bS ?_ GE122.out) | exact HB.out)) hb); clear BK121; clear BK122; clear HB; have BK121 := n0_; have BK122 := n1_; have HB := n2_; clear n0_ n1_ n2_; (try simp only [gfW_none, gfW_some]); have HBZ := HB; have HRn_ := Q9a.mk (Kd.cB HR0_2.out HB.out); clear HR0_2; have HR0_2 := HRn_; clear HRn_; have HRn_ := Q9a.mk (Kd.cB HR1.out HB.out); clear HR1; have HR1 := HRn_; clear HRn_; clear HB; obtain ⟨wz, rfl⟩ : ∃ z_ : World, z_ = w := ⟨_, rfl⟩; obtain ⟨w, rfl⟩ : ∃ z_ : World, z_ = w112 := ⟨_, rfl⟩; have HB := Q9a.mk (Below.refl w.heap.size w); have HG_q125 := Q9a.mk (hgo : GFok w b_q125 q125); clear hgo))
  have n0_ := Q9a.mk (kD BK121.out);have n1_ := Q9a.mk (kD BK122.out);have n2_ := Q9a.mk (bD HB.out);clear BK121;clear BK122;clear HB;have BK121 := n0_;have BK122 := n1_;have HB := n2_;clear n0_ n1_ n2_;refine start_ (n := 6) (S := fun w' => w'.cell? ⟨gb122, 0, none⟩ = some (.int .i64 a2_0) ∧ w'.cell? ⟨gb122, 1, none⟩ = some (.int .i64 a2_1)) (ds := []) #[fB,fB,fB,fB,fB,fB] (by kernel_rfl) rfl rfl ⟨(kC BK122.out 0).trans rfl, (kC BK122.out 1).trans rfl⟩ (fun hHeld => ?_);generalize w.drew = w113 at BK121 BK122 HB hHeld ⊢;refine pQ 0 18 rfl (by kernel_rfl) ?_;refine pQ 2 20 rfl (by kernel_rfl) ?_;refine tQ 1 19 rfl (by kernel_rfl) hHeld ?_;refine pQ 4 8 rfl (by kernel_rfl) ?_;refine tQ 3 21 rfl (by kernel_rfl) hHeld ?_;refine pQ 5 9 rfl (by kernel_rfl) ?_;refine done_ (by kernel_rfl) ?_;try go_wp2_with (first | ((with_reducible refine gC (f := 33) rfl ?_); refine gL (some 34) rfl rfl Try.func33 (by kernel_rfl) rfl #[.pointer (some ⟨b_q125, 0, none⟩), .slice A1 l1.length c1, .int .i64 a2_0, .int .i64 a2_1] rfl (by (try simp only [sm1, sm2, sm3]); first | done | rfl | (simp only [sm4, sm5]; rfl)) ?_; (with_reducible refine (tower_Coordinates.calls b_q125 q125 _ _ l1 a2_0 a2_1 t126 t127 _ ?side1 ?side2 ?side3 A22.out).mono ?_); (case side1 => exact GFok.belowT HG_q125.out (by repeat (first | (with_reducible first | exact HB.out | apply bA | apply bN | apply bD | refine bS ?_ GE121.out | refine bS ?_ GE122.out) | exact HB.out))); (case side2 => exact cI HR1.out HB.out); (case side3 => exact HC1.out); rintro e w114 ⟨v128, rfl, ho0, hb⟩; refine ⟨_, rfl, ?_⟩; have n0_ := Q9a.mk (Kd.rL ho0 (bZ (by repeat (first | (with_reducible first | exact HB.out | apply bA | apply bN | apply bD | refine bS ?_ GE121.out | refine bS ?_ GE122.out) | exact HB.out)))); have n1_ := Q9a.mk (kB (g := gb121) (o := .cells #[.int .i64 a0_0, .int .i64 a0_1, .slice A0_2 l0_2.length c0_2] 24 (0, 0)) (kI BK121.out) hb); have n2_ := Q9a.mk (kB (g := gb122) (o := .cells #[.int .i64 a2_0, .int .i64 a2_1] 38 (0, 0)) (kI BK122.out) hb); have n3_ := Q9a.mk (bP (by repeat (first | (with_reducible first | exact HB.out | apply bA | apply bN | apply bD | refine bS ?_ GE121.out | refine bS ?_ GE122.out) | exact HB.out)) hb); clear BK121; clear BK122; clear HB; have HO129 := n0_; have BK121 := n1_; have BK122 := n2_; have HB := n3_; clear n0_ n1_ n2_ n3_; (try clear ho0); have hcz115_0 : w114.cell? ⟨gb121, 0, none⟩ = some (.int .i64 a0_0) := (kC BK121.out 0).trans rfl; have hcz115_1 : w114.cell? ⟨gb121, 1, none⟩ = some (.int .i64 a0_1) := (kC BK121.out 1).trans rfl; have hcz115_2 : w114.cell? ⟨gb121, 2, none⟩ = some (.slice A0_2 l0_2.length c0_2) := (kC BK121.out 2).trans rfl; have hfz115_0 := kF BK121.out 0; have hfz115_1 := kF BK121.out 1; have hfz115_2 := kF BK121.out 2) | ((with_reducible refine gC (f := 13) rfl ?_); refine gL (some 40) rfl rfl Try.func13 (by kernel_rfl) rfl #[.agg #[.int .i64 a0_0, .int .i64 a0_1, .slice A0_2 l0_2.length c0_2], .int .i64 a2_0] rfl (by (try simp only [sm1, sm2, sm3]); first | done | rfl | (simp only [sm4, sm5]; rfl)) ?_; (with_reducible refine (r7Divides.calls a0_0 a0_1 _ _ l0_2 a2_0 false _ ?side1 ?side2 A23.out).mono ?_); (case side1 => exact cI HR0_2.out HB.out); (case side2 => exact HC0_2.out); rintro e w116 ⟨rfl, hb⟩; refine ⟨_, rfl, ?_⟩; have n0_ := Q9a.mk (Kd.R_below (rI HO129.out) hb); have n1_ := Q9a.mk (kB (g := gb121) (o := .cells #[.int .i64 a0_0, .int .i64 a0_1, .slice A0_2 l0_2.length c0_2] 24 (0, 0)) (kI BK121.out) hb); have n2_ := Q9a.mk (kB (g := gb122) (o := .cells #[.int .i64 a2_0, .int .i64 a2_1] 38 (0, 0)) (kI BK122.out) hb); have n3_ := Q9a.mk (bP (by repeat (first | (with_reducible first | exact HB.out | apply bA | apply bN | apply bD | refine bS ?_ GE121.out | refine bS ?_ GE122.out) | exact HB.out)) hb); clear HO129; clear BK121; clear BK122; clear HB; have HO129 := n0_; have BK121 := n1_; have BK122 := n2_; have HB := n3_; clear n0_ n1_ n2_ n3_; (try clear hb); (try clear hb2); (try clear hk); (try clear hi)))
  go_ret
  exact ⟨by first | rfl | (simp [*, eN, eS] <;> rfl), belowZ HBZ.out (by repeat (first | (with_reducible first | exact HB.out | apply bA | apply bN | apply bD | refine bS ?_ GE121.out | refine bS ?_ GE122.out) | exact HB.out))⟩
 replace c5 := Bool.eq_false_iff.mpr c5;subst c5;have H1 : (some false) = some r := by rw [if_neg (show ¬ (false = true) by decide)] at H; exact H
 clear H;have H := H1;clear H1;obtain rfl := Option.some.inj H;go_enter Try.func9, Try.ntmps9
 go_wp2_with (first | ((with_reducible refine gD (N := 3) rfl ?_); (try (refine gG (by rfl) ?_; dsimp only)); refine bE ?hg (N := 3) ?hd (cs := #[.int .i64 a0_0, .int .i64 a0_1, .slice A0_2 l0_2.length c0_2]) (t := 24) ?hr ?_; (case hd => rfl); (case hg => rfl); (case hr => first | (go_simp; done) | (go_simp; rfl)); intro gb121 hg w117 hbox hb; have n0_ := Q9a.mk (bP (bI HB.out) hb); have n1_ := Q9a.mk (hbox); have n2_ := Q9a.mk ((by rw [hg]; exact (bZ (bI HB.out)) : w.heap.size ≤ gb121)); have n3_ := n2_; clear HB; have HB := n0_; have BK121 := n1_; have GW121 := n2_; have GE121 := n3_; clear n0_ n1_ n2_ n3_; clear hb hbox hg) | ((with_reducible refine gD (N := 5) rfl ?_); (try (refine gG (by rfl) ?_; dsimp only)); refine bE ?hg (N := 5) ?hd (cs := #[.int .i64 a2_0, .int .i64 a2_1]) (t := 38) ?hr ?_; (case hd => rfl); (case hg => rfl); (case hr => first | (go_simp; done) | (go_simp; rfl)); intro gb122 hg w118 hbox hb; have n0_ := Q9a.mk (kB (g := gb121) (o := .cells #[.int .i64 a0_0, .int .i64 a0_1, .slice A0_2 l0_2.length c0_2] 24 (0, 0)) (kI BK121.out) hb); have n1_ := Q9a.mk (bP (bJ HB.out GE121.out) hb); have n2_ := Q9a.mk (hbox); have n3_ := Q9a.mk ((by rw [hg]; exact (bZ (bJ HB.out GE121.out)) : w.heap.size ≤ gb122)); have n4_ := n3_; have n5_ := Q9a.mk ((by rw [hg]; exact Nat.ne_of_lt (blk_lt (g := gb121) (o := .cells #[.int .i64 a0_0, .int .i64 a0_1, .slice A0_2 l0_2.length c0_2] 24 (0, 0)) (kI BK121.out)) : gb121 ≠ gb122)); have n6_ := Q9a.mk ((by rw [hg]; exact Nat.ne_of_gt (blk_lt (g := gb121) (o := .cells #[.int .i64 a0_0, .int .i64 a0_1, .slice A0_2 l0_2.length c0_2] 24 (0, 0)) (kI BK121.out)) : gb122 ≠ gb121)); clear BK121; clear HB; have BK121 := n0_; have HB := n1_; have BK122 := n2_; have GW122 := n3_; have GE122 := n4_; have NB121_122 := n5_; have NB122_121 := n6_; clear n0_ n1_ n2_ n3_ n4_ n5_ n6_; clear hb hbox hg) | ((with_reducible refine gC (f := 10) rfl ?_); refine gL (some 14) rfl rfl Try.func10 (by kernel_rfl) rfl #[] rfl (by (try simp only [sm1, sm2, sm3]); first | done | rfl | (simp only [sm4, sm5]; rfl)) ?_; (with_reducible refine (l7alive.calls k  false _ A4.out).mono ?_); rintro e w119 ⟨rfl, hb⟩; refine ⟨_, rfl, ?_⟩; have n0_ := Q9a.mk (kB (g := gb121) (o := .cells #[.int .i64 a0_0, .int .i64 a0_1, .slice A0_2 l0_2.length c0_2] 24 (0, 0)) (kI BK121.out) hb); have n1_ := Q9a.mk (kB (g := gb122) (o := .cells #[.int .i64 a2_0, .int .i64 a2_1] 38 (0, 0)) (kI BK122.out) hb); have n2_ := Q9a.mk (bP (by repeat (first | (with_reducible first | exact HB.out | apply bA | apply bN | apply bD | refine bS ?_ GE121.out | refine bS ?_ GE122.out) | exact HB.out)) hb); clear BK121; clear BK122; clear HB; have BK121 := n0_; have BK122 := n1_; have HB := n2_; clear n0_ n1_ n2_; (try clear hb); (try clear hb2); (try clear hk); (try clear hi)))
 go_ret
 exact ⟨by first | rfl | (simp [*, eN, eS] <;> rfl), by repeat (first | (with_reducible first | exact HB.out | apply bA | apply bN | apply bD | refine bS ?_ GE121.out | refine bS ?_ GE122.out) | exact HB.out)⟩
end
end Go.Proofs.Ytlbddjojhcgpiaa.P
end
-- T9
section
namespace Go.Proofs.Ytlbddjojhcgpiaa.Pl
open Go.RowKit Go.Proofs.Ytlbddjojhcgpiaa.P Go.Proofs.Ytlbddjojhcgpiaa.Hand Go.Proofs.YtlbddjojhcgpiaaW.PrintWords
variable {G : GFv} {P M : Int} {mod : List Int}
noncomputable def subE (G : GFv) (d : Nat) : List (Cw.El G.F) := (subs G d).map G.el
theorem subE_num (G : GFv) (d : Nat) : (subE G d).map G.num = subs G d := by
 unfold subE
 rw [List.map_map];refine (List.map_congr_left (fun x hx => ?_)).trans (List.map_id _);show G.num (G.el x) = x
 rw [G.num_el, G.inn_of (mem_subs.1 hx).1]
theorem subE_sb (G : GFv) (d : Nat) : Cw.Sb d (subE G d) := by
 constructor
 ·unfold subE
  refine Cw.nodup_map ?_ (fun x hx y hy e => ?_)
  ·unfold subs
   refine Cw.nodup_filter _ ?_;unfold upto
   exact Cw.nodup_map List.nodup_range (fun _ _ _ _ e => Int.ofNat.inj e)
  have h1 := (mem_subs.1 hx).1;have h2 := (mem_subs.1 hy).1;rw [← G.inn_of h1, ← G.inn_of h2, ← G.num_el, ← G.num_el, e]
 intro x;unfold subE
 rw [List.mem_map];constructor
 ·rintro ⟨y, hy, rfl⟩;exact (mem_subs.1 hy).2
 intro h;exact ⟨G.num x, num_mem_subs h, G.el_num x⟩
theorem subE_len (G : GFv) {d : Nat} (h1 : 1 ≤ d) (hd : d ∣ G.F.m) : (subE G d).length = G.F.p ^ d := by
 unfold subE
 rw [List.length_map, subs_len G h1 hd]
def nums' (G : GFv) (l : List (Cw.El G.F)) : List Int := l.map G.num
theorem nums'_len (G : GFv) (l : List (Cw.El G.F)) : (nums' G l).length = l.length := by simp [nums']
theorem nums'_rd (G : GFv) (l : List (Cw.El G.F)) {i : Nat} (h : i < l.length) : rd (nums' G l) (i : Int) = G.num l[i] := by
 unfold rd nums'
 rw [Int.toNat_natCast, List.getD_eq_getElem?_getD, List.getElem?_map, List.getElem?_eq_getElem h]; rfl
theorem wsucc (j : Nat) (h : j < 1000000) : wrap64 ((j : Int) + 1) = ((j + 1 : Nat) : Int) := by rw [Pl.w64 (by omega) (by omega)]; rfl
section
variable (h : Is G P M mod) (S : List (Cw.El G.F)) (l : List Int)
include h
theorem isb_l2 (hS : S.length ≤ 256) (hl : l.length ≤ 16) (y : List (Cw.El G.F)) (hy : y.length ≤ 256) (i j : Nat) (hi : i < l.length) (hj : j < y.length) (nx : List (Cw.El G.F)) (hnx : nx.length ≤ 65536) (R : Bool)
  (hR : Ev (fun k => r7IsBasis.l1 k l (nums' G S) (nums' G y) (i : Int) (nums' G (nx ++ S.map (fun s => y[j] + s * elL G l i))) ((j + 1 : Nat) : Int) P M mod) R) :
  ∀ e k0, k0 + e = S.length → Ev (fun k => r7IsBasis.l2 k l (nums' G S) (nums' G y) (i : Int) (nums' G (nx ++ (S.take k0).map (fun s => y[j] + s * elL G l i))) (j : Int) (k0 : Int) P M mod) R := by
 intro e;induction e with
 | zero =>
  intro k0 hk;have hj1 : wrap64 ((j : Int) + 1) = ((j + 1 : Nat) : Int) := wsucc j (by omega);have c0 : ¬ (k0 : Int) < (S.length : Int) := by omega
  have c1 : ¬ (k0 : Int) < ((nums' G S).length : Int) := by rw [nums'_len]; exact c0
  refine Ev.step (fun k => ?_) hR;simp only [r7IsBasis.l2];rw [if_neg c1, hj1, List.take_of_length_le (by omega)]
 | succ e ih =>
  intro k0 hk;have hkS : k0 < S.length := by omega
  have hke : k0 + 1 + e = S.length := by omega
  have hk1 : wrap64 ((k0 : Int) + 1) = ((k0 + 1 : Nat) : Int) := wsucc k0 (by omega);have c2 : (0 : Int) ≤ (j : Int) := by omega
  have c4 : (0 : Int) ≤ (k0 : Int) := by omega
  have c5 : (0 : Int) ≤ (i : Int) := by omega
  have c6 : (i : Int) < (l.length : Int) := by omega
  have hmin : nx.length + min k0 S.length ≤ 70000 := by omega
  have c1 : (k0 : Int) < ((nums' G S).length : Int) := by rw [nums'_len]; exact Int.ofNat_lt.2 hkS
  have c3 : (j : Int) < ((nums' G y).length : Int) := by rw [nums'_len]; exact Int.ofNat_lt.2 hj
  have hlen0 : (nums' G (nx ++ (S.take k0).map (fun s => y[j] + s * elL G l i))).length ≤ 70000 := by
   rw [nums'_len, List.length_append, List.length_map, List.length_take];exact hmin
  have hlen : (nums' G (nx ++ (S.take k0).map (fun s => y[j] + s * elL G l i))).length < 17592186044416 := Nat.lt_of_le_of_lt hlen0 (by decide);clear hlen0;have hm := is_mul h (G.num S[k0]) (rd l (i : Int));have hrl : rd l (i : Int) = l.getD i 0 := by unfold rd; rw [Int.toNat_natCast]
  have em : G.mul (G.num S[k0]) (rd l (i : Int)) = G.num (S[k0] * elL G l i) := by
   rw [hrl];unfold Cw.GFv.mul elL
   rw [G.el_num]
  rw [em] at hm;have ha := is_add h (G.num y[j]) (G.num (S[k0] * elL G l i))
  have ea : G.add (G.num y[j]) (G.num (S[k0] * elL G l i)) = G.num (y[j] + S[k0] * elL G l i) := by
   unfold Cw.GFv.add
   rw [G.el_num, G.el_num]
  rw [ea] at ha;refine Ev.step (fun k => by simp only [r7IsBasis.l2]; rw [if_pos c1, if_pos c2, if_pos c3, if_pos c4, if_pos c5, if_pos c6, nums'_rd G S hkS, nums'_rd G y hj]) (Ev.bind hm (Ev.bind ha ?_));refine Ev.congr (fun k => if_pos hlen) ?_
  have hnext : nums' G (nx ++ (S.take k0).map (fun s => y[j] + s * elL G l i)) ++ [G.num (y[j] + S[k0] * elL G l i)] = nums' G (nx ++ (S.take (k0 + 1)).map (fun s => y[j] + s * elL G l i)) := by
   rw [← List.take_append_getElem hkS, List.map_append, ← List.append_assoc];unfold nums'
   rw [List.map_append (l₁ := nx ++ (S.take k0).map (fun s => y[j] + s * elL G l i))];rfl
  rw [hnext, hk1];exact ih (k0 + 1) hke
theorem isb_l1 (hS : S.length ≤ 256) (hl : l.length ≤ 16) (y : List (Cw.El G.F)) (hy : y.length ≤ 256) (i : Nat) (hi : i < l.length) (R : Bool)
  (hR : Ev (fun k => r7IsBasis.l0 k l (nums' G S) (nums' G (y.flatMap (fun z => S.map (fun s => z + s * elL G l i)))) ((i + 1 : Nat) : Int) P M mod) R) :
  ∀ e j, j + e = y.length → Ev (fun k => r7IsBasis.l1 k l (nums' G S) (nums' G y) (i : Int) (nums' G ((y.take j).flatMap (fun z => S.map (fun s => z + s * elL G l i)))) (j : Int) P M mod) R := by
 intro e;induction e with
 | zero =>
  intro j hj;have hi1 : wrap64 ((i : Int) + 1) = ((i + 1 : Nat) : Int) := wsucc i (by omega);have c0 : ¬ (j : Int) < (y.length : Int) := by omega
  have c1 : ¬ (j : Int) < ((nums' G y).length : Int) := by rw [nums'_len]; exact c0
  refine Ev.step (fun k => ?_) hR;simp only [r7IsBasis.l1];rw [if_neg c1, hi1, List.take_of_length_le (by omega)]
 | succ e ih =>
  intro j hj;have hjy : j < y.length := by omega
  have hje : j + 1 + e = y.length := by omega
  have flen : ∀ L : List (Cw.El G.F), (L.flatMap (fun z => S.map (fun s => z + s * elL G l i))).length = L.length * S.length := by
   intro L;induction L with
   | nil => simp
   | cons a L ih => rw [List.flatMap_cons, List.length_append, ih, List.length_map, List.length_cons, Nat.succ_mul, Nat.add_comm]
  have hb : ((y.take j).flatMap (fun z => S.map (fun s => z + s * elL G l i))).length ≤ 65536 := by
   rw [flen, List.length_take];have := Nat.mul_le_mul (show min j y.length ≤ 256 by omega) hS;omega
  have c1 : (j : Int) < ((nums' G y).length : Int) := by rw [nums'_len]; exact Int.ofNat_lt.2 hjy
  have hn : (y.take (j + 1)).flatMap (fun z => S.map (fun s => z + s * elL G l i)) = (y.take j).flatMap (fun z => S.map (fun s => z + s * elL G l i)) ++ S.map (fun s => y[j] + s * elL G l i) := by
   rw [← List.take_append_getElem hjy, List.flatMap_append];congr 1
   simp
  have h3 := ih (j + 1) hje;rw [hn] at h3;have h2 := isb_l2 h S l hS hl y hy i j hi hjy _ hb R h3 S.length 0 (by omega);rw [List.take_zero, List.map_nil, List.append_nil] at h2;refine Ev.step (fun k => ?_) h2;simp only [r7IsBasis.l1];rw [if_pos c1];rfl
open Classical in
theorem isb_l3 (xs : List Int) (hxs : ∀ t, t < xs.length → 0 ≤ xs.getD t 0 ∧ xs.getD t 0 < (G.q : Int)) (hlen : xs.length ≤ 65536) : ∀ e i, i + e = xs.length → (∀ a b, a < i → b < i → xs.getD a 0 = xs.getD b 0 → a = b) →
  Ev (fun k => r7IsBasis.l3 k xs (btab G.q (memB xs i)) (i : Int)) (decide (∀ a b, a < xs.length → b < xs.length → xs.getD a 0 = xs.getD b 0 → a = b)) := by
 intro e;induction e with
 | zero =>
  intro i hi hd;obtain rfl : i = xs.length := by omega
  rw [decide_eq_true hd];refine Ev.step (f := fun _ => some _) (fun k => ?_) (Ev.now _);simp only [r7IsBasis.l3];rw [if_neg (by omega)]
 | succ e ih =>
  intro i hi hd;have hix : i < xs.length := by omega
  have hie : i + 1 + e = xs.length := by omega
  have c1 : (i : Int) < (xs.length : Int) := by omega
  have c2 : (0 : Int) ≤ (i : Int) := by omega
  have hi1 : wrap64 ((i : Int) + 1) = ((i + 1 : Nat) : Int) := by rw [Pl.w64 (by omega) (by omega)]; rfl
  have hrd : rd xs (i : Int) = xs.getD i 0 := by unfold rd; rw [Int.toNat_natCast]
  obtain ⟨h0, h1⟩ := hxs i hix;obtain ⟨y, hy⟩ := Int.eq_ofNat_of_zero_le h0;have hyq : y < G.q := by omega
  have hbl : ((btab G.q (memB xs i)).length : Int) = (G.q : Int) := by simp [btab]
  have hat : rdOf false (btab G.q (memB xs i)) (y : Int) = memB xs i y := by
   unfold rdOf btab
   rw [Int.toNat_natCast, List.getD_eq_getElem?_getD, List.getElem?_map, List.getElem?_range hyq]; rfl
  by_cases hm : memB xs i y = true
  ·have hno : ¬ ∀ a b, a < xs.length → b < xs.length → xs.getD a 0 = xs.getD b 0 → a = b := by
    intro hall;obtain ⟨t, ht, he⟩ := of_decide_eq_true hm;have := hall t i (by omega) hix (by rw [he, hy]);omega
   rw [decide_eq_false hno];refine Ev.step (f := fun _ => some _) (fun k => ?_) (Ev.now _);simp only [r7IsBasis.l3];rw [if_pos c1, if_pos c2, hrd, hy, if_pos (by omega), hbl, if_pos (by omega), hat, if_pos hm]
  refine Ev.step (fun k => ?_) (ih (i + 1) hie (fun a b ha hb hab => ?_))
  ·simp only [r7IsBasis.l3];rw [if_pos c1, if_pos c2, hrd, hy, if_pos (by omega), hbl, if_pos (by omega), hat, if_neg hm, hi1, Int.toNat_natCast, memB_succ hy hyq]
  have hnm : ∀ t, t < i → xs.getD t 0 ≠ xs.getD i 0 := fun t ht he => hm (decide_eq_true ⟨t, ht, by rw [he, hy]⟩)
  by_cases h1 : a = i
  ·by_cases h2 : b = i
   ·rw [h1, h2]
   rw [h1] at hab;exact absurd hab.symm (hnm b (by omega))
  by_cases h2 : b = i
  ·rw [h2] at hab;exact absurd hab (hnm a (by omega))
  exact hd a b (by omega) (by omega) hab
end
open Classical in
theorem nodup_getD (G : GFv) (L : List (Cw.El G.F)) : (∀ a b, a < (nums' G L).length → b < (nums' G L).length → (nums' G L).getD a 0 = (nums' G L).getD b 0 → a = b) ↔ L.Nodup := by
 have hg : ∀ a (ha : a < L.length), (nums' G L).getD a 0 = G.num L[a] := by
  intro a ha;unfold nums'
  rw [List.getD_eq_getElem?_getD, List.getElem?_map, List.getElem?_eq_getElem ha]; rfl
 rw [nums'_len];constructor
 ·intro h;refine List.pairwise_iff_getElem.2 (fun i j hi hj hij e => ?_);have h1 := h i j hi hj (by rw [hg i hi, hg j hj, e]);omega
 intro h a b ha hb hab;rw [hg a ha, hg b hb] at hab;have hab := G.num_inj hab;have h1 := List.pairwise_iff_getElem.1 h;rcases Nat.lt_trichotomy a b with h2 | h2 | h2
 ·exact absurd hab (h1 a b ha hb h2)
 ·exact h2
 exact absurd hab.symm (h1 b a hb ha h2)
theorem isb_l0 (h : Is G P M mod) (S : List (Cw.El G.F)) (l : List Int) (hS : S.length ≤ 256) (hl : l.length ≤ 16) (hb : ∀ i, i ≤ l.length → S.length ^ i ≤ 256) (R : Bool)
  (hR : Ev (fun k => r7IsBasis.l3 k (nums' G (Cw.cmb S (elL G l) l.length)) (btab G.q (memB (nums' G (Cw.cmb S (elL G l) l.length)) 0)) ((0 : Nat) : Int)) R) :
  ∀ e i, i + e = l.length → Ev (fun k => r7IsBasis.l0 k l (nums' G S) (nums' G (Cw.cmb S (elL G l) i)) (i : Int) P M mod) R := by
 intro e;have hq := G.q_le;induction e with
 | zero =>
  intro i hi;obtain rfl : i = l.length := by omega
  have c1 : ¬ (l.length : Int) < (l.length : Int) := Int.lt_irrefl _;refine Ev.step (fun k => by simp only [r7IsBasis.l0]; rw [if_neg c1]) (Ev.bind (is_order04 h) ?_)
  have hrep : List.replicate ((G.q : Int)).toNat false = btab G.q (memB (nums' G (Cw.cmb S (elL G l) l.length)) 0) := by
   rw [Int.toNat_natCast];apply List.ext_getElem?
   intro t;have hz : memB (nums' G (Cw.cmb S (elL G l) l.length)) 0 t = false := decide_eq_false (by rintro ⟨s, hs, _⟩; omega);unfold btab
   rw [List.getElem?_replicate, List.getElem?_map];by_cases ht : t < G.q
   ·rw [List.getElem?_range ht, if_pos ht];show some false = some (memB (nums' G (Cw.cmb S (elL G l) l.length)) 0 t)
    rw [hz]
   rw [if_neg ht, List.getElem?_eq_none (by rw [List.length_range]; omega)];rfl
  refine Ev.congr (fun k => ?_) hR;rw [if_pos (by omega), if_pos (by omega), hrep];rfl
 | succ e ih =>
  intro i hi;have hil : i < l.length := by omega
  have hie : i + 1 + e = l.length := by omega
  have c1 : (i : Int) < (l.length : Int) := by omega
  have hy : (Cw.cmb S (elL G l) i).length ≤ 256 := by rw [Cw.cmb_length]; exact hb i (by omega)
  have h1 := isb_l1 h S l hS hl (Cw.cmb S (elL G l) i) hy i hil R (ih (i + 1) hie) _ 0 (Nat.zero_add _);refine Ev.step (fun k => ?_) h1;simp only [r7IsBasis.l0];rw [if_pos c1];rfl
open Classical in
def Bas (G : GFv) (d : Int) (l : List Int) : Prop := ∃ d' : Nat, d = (d' : Int) ∧ 1 ≤ d' ∧ d' ∣ G.F.m ∧ l.length = G.F.m / d' ∧ Cw.Inj d' (G.F.m / d') (elL G l)
theorem quot_tdiv (G : GFv) {d : Nat} (hd1 : 1 ≤ d) : wrap64 (Int.tdiv (G.F.m : Int) (d : Int)) = ((G.F.m / d : Nat) : Int) := by
 have hm := G.m_le;have := Nat.div_le_self G.F.m d;rw [Cw.tdiv_nat];exact Pl.w64n _ (by omega)
open Classical in
theorem refIsBasis (h : Is G P M mod) (l : List Int) (D : Int) (hl : l.length ≤ 16) : Ev (fun k => r7IsBasis.f k P M mod l D) (decide (Bas G D l)) := by
 have hM : M = (G.F.m : Int) := h.2.1.symm;have hm := G.m_le;have hq := G.q_le
 have bad : ∀ b : Bool, b = true → ¬ Bas G D l → Ev (fun k => r7IsBasis.j0 k l D b P M mod) (decide (Bas G D l)) := by
  intro b hb hn;subst hb;rw [decide_eq_false hn];refine Ev.step (f := fun _ => some _) (fun k => ?_) (Ev.now _);simp only [r7IsBasis.j0];rfl
 have hdv := divides_f h D;by_cases hD : Dv G D
 ·rw [decide_eq_true hD] at hdv;obtain ⟨d, rfl, hd1, hdm⟩ := hD;have hdl := Nat.le_of_dvd G.m_pos hdm;have hd0 : ¬ (d : Int) = 0 := by omega
  refine Ev.bind (Ev.congr (fun _ => hdv) (Ev.now _)) ?_;refine Ev.congr (fun k => (if_pos rfl).trans (if_neg hd0)) ?_;rw [hM, quot_tdiv G hd1, ← hM];by_cases hll : l.length = G.F.m / d
  ·have hbne : ((l.length : Int) != ((G.F.m / d : Nat) : Int)) = false := bne_eq_false_iff_eq.2 (by omega);rw [hbne];have hsub := refSubfield h d (by omega);have hSl := subE_len G hd1 hdm
   have hpow : ∀ i, i ≤ l.length → (subE G d).length ^ i ≤ 256 := by
    intro i hi;rw [hSl, ← Nat.pow_mul];refine Nat.le_trans (Nat.pow_le_pow_right (by have := G.p_ge; omega) ?_) hq;rw [hll] at hi;exact Nat.le_trans (Nat.mul_le_mul_left d hi) (Nat.mul_div_le _ _)
   have hS1 : (subE G d).length ≤ 256 := by
    have h1 := hpow 1 (by rw [hll]; exact Nat.div_pos hdl hd1);rwa [Nat.pow_one] at h1
   have hlc : (nums' G (Cw.cmb (subE G d) (elL G l) l.length)).length ≤ 65536 := by
    rw [nums'_len, Cw.cmb_length];have := hpow l.length (Nat.le_refl _);omega
   have h3 := isb_l3 h (nums' G (Cw.cmb (subE G d) (elL G l) l.length)) (fun t ht => by
    rw [nums'_len] at ht
    have e : (nums' G (Cw.cmb (subE G d) (elL G l) l.length)).getD t 0 = G.num ((Cw.cmb (subE G d) (elL G l) l.length)[t]) := by
     unfold nums'
     rw [List.getD_eq_getElem?_getD, List.getElem?_map, List.getElem?_eq_getElem ht]; rfl
    rw [e];exact G.num_is _) hlc _ 0 (Nat.zero_add _) (fun a b ha => by omega)
   have h0 := isb_l0 h (subE G d) l hS1 hl hpow _ h3 l.length 0 (by omega)
   have hiff : (∀ a b, a < (nums' G (Cw.cmb (subE G d) (elL G l) l.length)).length → b < (nums' G (Cw.cmb (subE G d) (elL G l) l.length)).length → (nums' G (Cw.cmb (subE G d) (elL G l) l.length)).getD a 0 = (nums' G (Cw.cmb (subE G d) (elL G l) l.length)).getD b 0 → a = b) ↔ Bas G (d : Int) l := by
    rw [nodup_getD];constructor
    ·intro hnd;refine ⟨d, rfl, hd1, hdm, hll, Cw.inj_of_ind (K := Cw.El G.F) hdm hd1 ?_⟩;have := Cw.ind_of_nodup (subE_sb G d) _ hnd;rw [hll] at this;exact this
    rintro ⟨d', e1, _, _, _, hI⟩;obtain rfl : d = d' := by omega
    refine Cw.nodup_of_ind (subE_sb G d) _ ?_;rw [hll];exact Cw.ind_of_inj hI
   have hdec : decide (Bas G (d : Int) l) = decide (∀ a b, a < (nums' G (Cw.cmb (subE G d) (elL G l) l.length)).length → b < (nums' G (Cw.cmb (subE G d) (elL G l) l.length)).length → (nums' G (Cw.cmb (subE G d) (elL G l) l.length)).getD a 0 = (nums' G (Cw.cmb (subE G d) (elL G l) l.length)).getD b 0 → a = b) := decide_eq_decide.2 hiff.symm;rw [hdec];refine Ev.step (fun k => by simp only [r7IsBasis.j0]; rw [if_neg Bool.false_ne_true]) (Ev.bind hsub ?_);refine Ev.congr (fun k => ?_) h0;rw [← subE_num]
   have e0 : nums' G (Cw.cmb (subE G d) (elL G l) 0) = [0] := by
    show [G.num 0] = [0]
    rw [G.num_zero]
   rw [e0];rfl
  refine bad _ (bne_iff_ne.2 (by omega)) ?_;rintro ⟨d', e1, _, _, h4, _⟩;obtain rfl : d = d' := by omega
  exact hll h4
 rw [decide_eq_false hD] at hdv;refine Ev.bind (Ev.congr (fun _ => hdv) (Ev.now _)) ?_;refine Ev.congr (fun k => if_neg Bool.false_ne_true) ?_;refine bad _ rfl ?_;rintro ⟨d', e1, h2, h3, _⟩;exact hD ⟨d', e1, h2, h3⟩
theorem basis_yes {l : List Int} {D : Int} (h : Bas G D l) : tower_basis.f G l D = some 0 := by
 classical
 obtain ⟨d, rfl, hd1, hdm, hl, hI⟩ := h;unfold tower_basis.f
 rw [if_neg (fun hn => hn ⟨d, rfl, hd1, hdm⟩), Int.toNat_natCast, if_neg (fun hn => hn hl), if_pos hI]
theorem basis_rank {l : List Int} {D : Int} (hD : Dv G D) (h : ¬ Bas G D l) : tower_basis.f G l D = some 9 := by
 classical
 obtain ⟨d, rfl, hd1, hdm⟩ := hD;unfold tower_basis.f
 rw [if_neg (fun hn => hn ⟨d, rfl, hd1, hdm⟩), Int.toNat_natCast];by_cases hl : l.length = G.F.m / d
 ·rw [if_neg (fun hn => hn hl), if_neg (fun hI => h ⟨d, rfl, hd1, hdm, hl, hI⟩)]
 rw [if_pos hl]
theorem basis_range {l : List Int} {D : Int} (hD : ¬ Dv G D) : tower_basis.f G l D = some 6 := by
 classical
 unfold tower_basis.f
 rw [if_pos hD]
end Go.Proofs.Ytlbddjojhcgpiaa.Pl
end
-- T10
section
namespace Go.Proofs.Ytlbddjojhcgpiaa.Pl
open Go.RowKit Go.Proofs.Ytlbddjojhcgpiaa.P Go.Proofs.Ytlbddjojhcgpiaa.Hand Go.Proofs.YtlbddjojhcgpiaaW.PrintWords
variable {G : GFv} {P M : Int} {mod : List Int}
theorem coord_ex {d : Nat} (hd1 : 1 ≤ d) (hdm : d ∣ G.F.m) {l : List Int} (hI : Cw.Inj d (G.F.m / d) (elL G l)) (x : Cw.El G.F) : Eqs G d (G.F.m / d) l (fun i => Cw.fr (d * i) x) (solX G d (G.F.m / d) l (fun i => Cw.fr (d * i) x)) := by
 obtain ⟨s, hs, e⟩ := Cw.span_of_ind (K := Cw.El G.F) hdm hd1 (subE_sb G d) (subE_len G hd1 hdm) (Cw.ind_of_inj hI) x;refine solX_eqs (c := s) (fun i hi => ?_);have e2 := congrArg (Cw.fr (d * i)) e;show _ = Cw.fr (d * i) x
 rw [e2, Cw.fr_sm];exact Cw.sm_congr (fun j hj => by rw [Cw.fr_mul, Cw.fr_sub (hs j hj), Cw.mul_comm])
theorem coord_all {d : Nat} (hd1 : 1 ≤ d) (hdm : d ∣ G.F.m) {l : List Int} (hI : Cw.Inj d (G.F.m / d) (elL G l)) (x : Cw.El G.F) :
  (∀ j, j < G.F.m / d → Cw.fr d (solX G d (G.F.m / d) l (fun i => Cw.fr (d * i) x) j) = solX G d (G.F.m / d) l (fun i => Cw.fr (d * i) x) j) ∧ Cw.sm (G.F.m / d) (fun j => solX G d (G.F.m / d) l (fun i => Cw.fr (d * i) x) j * elL G l j) = x :=
 Cw.coord_sub (K := Cw.El G.F) hdm hd1 (subE_sb G d) (subE_len G hd1 hdm) hI x _ (coord_ex hd1 hdm hI x)
theorem dot_loop (h : Is G P M mod) (n : Nat) (hn : n ≤ 1000) (c : Nat → Cw.El G.F) (l : List Int) (hl : l.length = n) : ∀ e i, i + e = n → Ev (fun k => r4Dot.l0 k (numsL G n c) l (G.num (Cw.sm i (fun j => c j * elL G l j))) (i : Int) P M mod) (G.num (Cw.sm n (fun j => c j * elL G l j))) := by
 intro e;induction e with
 | zero =>
  intro i hi;obtain rfl : i = n := by omega
  have c1 : ¬ (i : Int) < ((numsL G i c).length : Int) := by rw [numsL_length]; exact Int.lt_irrefl _
  refine Ev.step (f := fun k => r4Dot.j1 k (numsL G i c) l (G.num (Cw.sm i (fun j => c j * elL G l j))) (i : Int) false P M mod) (fun k => by rw [r4Dot.l0, if_neg c1]) ?_;exact Ev.step (f := fun _ => some _) (fun k => by rw [r4Dot.j1, if_neg Bool.false_ne_true]) (Ev.now _)
 | succ e ih =>
  intro i hi;have hin : i < n := by omega
  have hie : i + 1 + e = n := by omega
  have c2 : (i : Int) < (l.length : Int) := by rw [hl]; exact Int.ofNat_lt.2 hin
  have c3 : (0 : Int) ≤ (i : Int) := Int.natCast_nonneg i;have hi1 : wrap64 ((i : Int) + 1) = ((i + 1 : Nat) : Int) := wsucc i (by omega);have c1 : (i : Int) < ((numsL G n c).length : Int) := by rw [numsL_length]; exact Int.ofNat_lt.2 hin
  have hrl : rd l (i : Int) = l.getD i 0 := by unfold rd; rw [Int.toNat_natCast]
  have hm := is_mul h (rd (numsL G n c) (i : Int)) (rd l (i : Int))
  have em : G.mul (rd (numsL G n c) (i : Int)) (rd l (i : Int)) = G.num (c i * elL G l i) := by
   rw [hrl, numsL_rd G n c hin];unfold Cw.GFv.mul elL
   rw [G.el_num]
  rw [em] at hm;have ha := is_add h (G.num (Cw.sm i (fun j => c j * elL G l j))) (G.num (c i * elL G l i))
  have ea : G.add (G.num (Cw.sm i (fun j => c j * elL G l j))) (G.num (c i * elL G l i)) = G.num (Cw.sm (i + 1) (fun j => c j * elL G l j)) := by
   unfold Cw.GFv.add
   rw [G.el_num, G.el_num, Cw.sm_succ]
  rw [ea] at ha;refine Ev.step (f := fun k => r4Dot.j1 k (numsL G n c) l (G.num (Cw.sm i (fun j => c j * elL G l j))) (i : Int) true P M mod) (fun k => by rw [r4Dot.l0, if_pos c1, decide_eq_true c2]) ?_;refine Ev.step (f := fun k => (r4Mul.f k P M mod (rd (numsL G n c) (i : Int)) (rd l (i : Int))).bind fun t498 => (r4Add.f k P M mod (G.num (Cw.sm i (fun j => c j * elL G l j))) t498).bind fun t499 => r4Dot.l0 k (numsL G n c) l t499 (wrap64 ((i : Int) + 1)) P M mod) (fun k => by rw [r4Dot.j1, if_pos rfl, if_pos c3, if_pos c1, if_pos c2]) ?_;refine Ev.bind hm (Ev.bind ha ?_);rw [hi1];exact ih (i + 1) hie
theorem dot_nums (h : Is G P M mod) (n : Nat) (hn : n ≤ 1000) (c : Nat → Cw.El G.F) (l : List Int) (hl : l.length = n) : Ev (fun k => r4Dot.f k P M mod (numsL G n c) l) (G.num (Cw.sm n (fun j => c j * elL G l j))) := by
 have h0 : G.num (Cw.sm 0 (fun j => c j * elL G l j)) = 0 := G.num_zero;have := dot_loop h n hn c l hl n 0 (by omega);rw [h0] at this;exact this
end Go.Proofs.Ytlbddjojhcgpiaa.Pl
end
-- PureBC
section
namespace Go.Proofs.Ytlbddjojhcgpiaa
open Go.RowKit Go.Proofs.Ytlbddjojhcgpiaa.P Go.Proofs.Ytlbddjojhcgpiaa.Hand Go.Proofs.YtlbddjojhcgpiaaW.PrintWords Pl
theorem Pl.alive : Ev (fun k => l7alive.f k) true := by
 obtain ⟨G, h1, h2, h3, h4⟩ := ex_field;refine Ev.bind (Ev.congr (fun _ => h1) (Ev.now _)) ?_;dsimp only [optE];refine Ev.bind (Ev.congr (fun _ => h2) (Ev.now _)) ?_;refine Ev.bind h3 ?_;refine Ev.congr (fun k => if_pos rfl) ?_;refine Ev.bind ex_same ?_;refine Ev.congr (fun k => (if_pos rfl).trans ((if_pos rfl).trans (if_pos rfl))) ?_;refine Ev.bind h4 ?_;exact Ev.congr (fun k => rfl) (Ev.now _)
theorem Pl.coord_loop {G : GFv} {P M : Int} {m : List Int} (h : Is G P M m) (l : List Int) (d : Nat) (hd : d ≤ 1000000) (X : Int) (n : Nat) (hn : n ≤ 1000) (hl : l.length = n) (c : Nat → Cw.El G.F) (hc : ∀ j, j < n → Cw.fr d (c j) = c j) (hs : Cw.sm n (fun j => c j * elL G l j) = G.el X) :
  ∀ e i, i + e = n → Ev (fun k => l7TowerCoordinates.l0 k l (d : Int) X (numsL G n c) (numsL G n c) ((numsL G n c).length : Int) (i : Int) P M m) true := by
 intro e;induction e with
 | zero =>
  intro i hi;obtain rfl : i = n := by omega
  have c1 : ¬ (i : Int) < ((numsL G i c).length : Int) := by rw [numsL_length]; exact Int.lt_irrefl _
  refine Ev.step (f := fun k => (r4Dot.f k P M m (numsL G i c) l).bind fun t132 => (r4In.f k P M m X).bind fun t133 => some (t132 == t133)) (fun k => by rw [l7TowerCoordinates.l0, if_neg c1]) ?_;refine Ev.bind (dot_nums h i hn c l hl) (Ev.bind (is_in h X) ?_);refine Ev.congr (fun k => congrArg some (beq_iff_eq.2 ?_)) (Ev.now _);rw [hs, G.num_el]
 | succ e ih =>
  intro i hi;have hin : i < n := by omega
  have hie : i + 1 + e = n := by omega
  have c1 : (i : Int) < ((numsL G n c).length : Int) := by rw [numsL_length]; exact Int.ofNat_lt.2 hin
  have c3 : (0 : Int) ≤ (i : Int) := Int.natCast_nonneg i;have hi1 : wrap64 ((i : Int) + 1) = ((i + 1 : Nat) : Int) := wsucc i (by omega);have h1 := is_is h (rd (numsL G n c) (i : Int));rw [numsL_rd G n c hin, decide_eq_true (G.num_is (c i))] at h1;have h2 := refIn h (rd (numsL G n c) (i : Int)) d hd;rw [numsL_rd G n c hin, inB_iff.2 (by rw [G.el_num]; exact hc i hin)] at h2;refine Ev.step (f := fun k => (r4Is.f k P M m (rd (numsL G n c) (i : Int))).bind fun t135 => if t135 = true then ((r7In.f k P M m (rd (numsL G n c) (i : Int)) (d : Int)).bind fun t136 => if t136 = true then l7TowerCoordinates.l0 k l (d : Int) X (numsL G n c) (numsL G n c) ((numsL G n c).length : Int) (wrap64 ((i : Int) + 1)) P M m else some false) else some false) (fun k => by rw [l7TowerCoordinates.l0, if_pos c1, if_pos c3, if_pos c1]) ?_;rw [numsL_rd G n c hin];refine Ev.bind h1 ?_;refine Ev.congr (fun k => if_pos rfl) (Ev.bind h2 ?_);refine Ev.congr (fun k => if_pos rfl) ?_;rw [hi1];exact ih (i + 1) hie
theorem Pure.TowerCoordinates (P M : Int) (m : List Int) (l : List Int) (D X : Int) (wP : (Lit.int .i64 P).wf = true) (wM : (Lit.int .i64 M).wf = true) (hm : m.length ≤ maxLen) (wm : ∀ x ∈ m, (Lit.int .i64 x).wf = true) (hl : l.length ≤ maxLen) (wl : ∀ x ∈ l, (Lit.int .i64 x).wf = true) (wD : (Lit.int .i64 D).wf = true) (wX : (Lit.int .i64 X).wf = true) :
  ∃ k, l7TowerCoordinates.f k P M m l D X = some true := by
 classical
 refine Ev.rounds (g := fun k => l7TowerCoordinates.f k P M m l D X) ?_;refine Ev.bind Pl.alive ?_;refine Ev.congr (fun k => if_pos rfl) ?_;rcases made_cases P M m (wf_lt wP) with ⟨ho, _⟩ | ⟨G, hG, ho, _⟩
 ·refine Ev.bind (Ev.congr (fun _ => ho) (Ev.now _)) ?_;dsimp only [optE];exact Ev.now _
 refine Ev.bind (Ev.congr (fun _ => ho) (Ev.now _)) ?_;dsimp only [optE];by_cases h12 : (l.length : Int) > 12
 ·exact Ev.congr (fun k => if_pos h12) (Ev.now _)
 refine Ev.congr (fun k => if_neg h12) ?_
 have hno : ∀ e : Int, e ≠ 0 → tower_basis.f G l D = some e → tower_Coordinates.f G l D X = some ([], e) := by
  intro e he hb;unfold tower_Coordinates.f
  rw [hb];exact if_pos he
 by_cases hD : Dv G D
 ·by_cases hB : Bas G D l
  ·have hf : tower_Coordinates.f G l D X = some (numsL G (G.F.m / D.toNat) (solX G D.toNat (G.F.m / D.toNat) l (fun i => Cw.fr (D.toNat * i) (G.el X))), 0) := by
    unfold tower_Coordinates.f
    rw [basis_yes hB];exact (Option.bind_some _ _).trans (if_neg (show ¬ ((0 : Int) ≠ 0) from fun h => h rfl))
   refine Ev.bind (Ev.congr (fun _ => hf) (Ev.now _)) ?_;refine Ev.bind (Ev.congr (fun _ => divides_f hG D) (Ev.now _)) ?_;refine Ev.congr (fun k => if_pos (decide_eq_true hD)) ?_;refine Ev.bind (refIsBasis hG l D (by omega)) ?_;refine Ev.congr (fun k => (if_pos (decide_eq_true hB)).trans (if_pos rfl)) ?_;obtain ⟨d, rfl, hd1, hdm, hn, hI⟩ := hB;rw [Int.toNat_natCast];obtain ⟨n, hn'⟩ : ∃ n, n = G.F.m / d := ⟨_, rfl⟩;have hc := coord_all hd1 hdm hI (G.el X);rw [← hn'] at hc hn ⊢;have hm8 := G.m_le;have hdl := Nat.le_of_dvd G.m_pos hdm;obtain ⟨c, hcc⟩ : ∃ c, c = solX G d n l (fun i => Cw.fr (d * i) (G.el X)) := ⟨_, rfl⟩;rw [← hcc] at hc ⊢
   have hne : (((numsL G n c).length : Int) != (l.length : Int)) = false := by
    rw [numsL_length, hn];exact bne_self_eq_false _
   rw [hne];refine Ev.step (f := fun k => l7TowerCoordinates.l0 k l (d : Int) X (numsL G n c) (numsL G n c) ((numsL G n c).length : Int) 0 P M m) (fun k => by rw [l7TowerCoordinates.j0, if_neg Bool.false_ne_true]) ?_;exact Pl.coord_loop hG l d (by omega) X n (by omega) hn c hc.1 hc.2 n 0 (by omega)
  refine Ev.bind (Ev.congr (fun _ => hno 9 (by decide) (basis_rank hD hB)) (Ev.now _)) ?_;refine Ev.bind (Ev.congr (fun _ => divides_f hG D) (Ev.now _)) ?_;refine Ev.congr (fun k => if_pos (decide_eq_true hD)) ?_;refine Ev.bind (refIsBasis hG l D (by omega)) ?_;refine Ev.congr (fun k => (if_neg (by rw [decide_eq_false hB]; exact Bool.false_ne_true)).trans (if_pos rfl)) ?_;exact Ev.congr (fun k => rfl) (Ev.now _)
 refine Ev.bind (Ev.congr (fun _ => hno 6 (by decide) (basis_range hD)) (Ev.now _)) ?_;refine Ev.bind (Ev.congr (fun _ => divides_f hG D) (Ev.now _)) ?_;refine Ev.congr (fun k => (if_neg (by rw [decide_eq_false hD]; exact Bool.false_ne_true)).trans (if_pos rfl)) ?_;exact Ev.congr (fun k => rfl) (Ev.now _)
end Go.Proofs.Ytlbddjojhcgpiaa
end
