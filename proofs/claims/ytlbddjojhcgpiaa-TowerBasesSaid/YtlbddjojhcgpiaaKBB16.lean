/- What towerBases_holds needs: texts T8, Hb, BB1, T9, PureBB, put together. -/
import Derived.Test.YtlbddjojhcgpiaaKBB15
import Derived.Deep.RegionWith
set_option linter.unusedVariables false
set_option linter.unusedSimpArgs false
set_option linter.unusedSectionVars false
set_option maxHeartbeats 8000000
set_option maxRecDepth 100000
-- T8
section
namespace Go.Proofs.Ytlbddjojhcgpiaa.Pl
open Go.RowKit Go.Proofs.Ytlbddjojhcgpiaa.P Go.Proofs.Ytlbddjojhcgpiaa.Hand Go.Proofs.YtlbddjojhcgpiaaW.PrintWords
variable {G : GFv} {P M : Int} {mod : List Int}
theorem iteq {α : Type} {p q : Prop} [Decidable p] [Decidable q] (h : p ↔ q) (a b : α) : (if p then a else b) = if q then a else b := by
 by_cases hp : p
 ·rw [if_pos hp, if_pos (h.1 hp)]
 rw [if_neg hp, if_neg (fun hq => hp (h.2 hq))]
def rowsOf (G : GFv) (n : Nat) (B : Nat → Nat → Cw.El G.F) : List (List Int) := (List.range n).map (fun i => mrow G n (B i))
theorem rowsOf_length (G : GFv) (n : Nat) (B : Nat → Nat → Cw.El G.F) : (rowsOf G n B).length = n := by simp [rowsOf]
theorem rowsOf_rd (G : GFv) (n : Nat) (B : Nat → Nat → Cw.El G.F) {i : Nat} (h : i < n) : rd_L2 (rowsOf G n B) (i : Int) = mrow G n (B i) := by
 unfold rd_L2 rowsOf
 rw [Int.toNat_natCast, List.getD_eq_getElem?_getD, List.getElem?_map, List.getElem?_range h]; rfl
theorem rowsOf_congr (G : GFv) (n : Nat) {B C : Nat → Nat → Cw.El G.F} (h : ∀ i j, i < n → j < n + 1 → B i j = C i j) : rowsOf G n B = rowsOf G n C := by
 unfold rowsOf
 refine List.map_congr_left (fun i hi => ?_);exact mrow_congr G (fun j hj => h i j (List.mem_range.1 hi) hj)
theorem rowsOf_set (G : GFv) (n : Nat) (B : Nat → Nat → Cw.El G.F) (i : Nat) (x : Nat → Cw.El G.F) : (rowsOf G n B).set i (mrow G n x) = rowsOf G n (fun i' => if i' = i then x else B i') := by
 apply List.ext_getElem?
 intro t;unfold rowsOf
 rw [List.getElem?_set];simp only [List.length_map, List.length_range, List.getElem?_map];by_cases ht : t < n
 ·rw [List.getElem?_range ht];by_cases h : i = t
  ·subst h;simp [ht]
  rw [if_neg h];simp [show ¬ t = i from fun e => h e.symm]
 have hn : (List.range n)[t]? = none := List.getElem?_eq_none (by rw [List.length_range]; omega);rw [hn];by_cases h : i = t
 ·subst h;simp [ht]
 rw [if_neg h];rfl
def sysM (G : GFv) (d n : Nat) (l : List Int) (ρ : Nat → Cw.El G.F) : Nat → Nat → Cw.El G.F := fun i j => if j < n then Cw.fr (d * i) (G.el (l.getD j 0)) else ρ i
def numsL (G : GFv) (n : Nat) (ρ : Nat → Cw.El G.F) : List Int := (List.range n).map (fun i => G.num (ρ i))
theorem numsL_length (G : GFv) (n : Nat) (ρ : Nat → Cw.El G.F) : (numsL G n ρ).length = n := by simp [numsL]
theorem numsL_rd (G : GFv) (n : Nat) (ρ : Nat → Cw.El G.F) {i : Nat} (h : i < n) : rd (numsL G n ρ) (i : Int) = G.num (ρ i) := by
 unfold rd numsL
 rw [Int.toNat_natCast, List.getD_eq_getElem?_getD, List.getElem?_map, List.getElem?_range h]; rfl
section
variable (G : GFv) (d n : Nat) (l : List Int) (ρ : Nat → Cw.El G.F)
theorem sys_l2 (hn8 : n ≤ 8) (hl : l.length = n) (j : Nat) (hj : j < n) (R : List (List Int)) (hR : Ev (fun k => tower_system.l1 k G (d : Int) (rowsOf G n (fun i t => if t < j + 1 then Cw.fr (d * i) (G.el (l.getD t 0)) else if t = n then ρ i else 0)) l (n : Int) ((j + 1 : Nat) : Int)) R) :
  ∀ e i, i + e = n → Ev (fun k => tower_system.l2 k G (d : Int) (rowsOf G n (fun i' t => if t < j ∨ (t = j ∧ i' < i) then Cw.fr (d * i') (G.el (l.getD t 0)) else if t = n then ρ i' else 0)) (j : Int) l (n : Int) (j : Int) (eachL G d n (l.getD j 0)) (n : Int) (i : Int)) R := by
 intro e;induction e with
 | zero =>
  intro i hi;obtain rfl : i = n := by omega
  have hj1 : wrap64 ((j : Int) + 1) = ((j + 1 : Nat) : Int) := by rw [Pl.w64 (by omega) (by omega)]; rfl
  refine Ev.step (fun k => ?_) hR;simp only [tower_system.l2];rw [if_neg (by omega), hj1];congr 1
  refine rowsOf_congr G i (fun i' t h1 h2 => ?_);exact iteq (by omega) _ _
 | succ e ih =>
  intro i hi;have hin : i < n := by omega
  have c1 : (i : Int) < (n : Int) := by omega
  have hie : i + 1 + e = n := by omega
  have hi1 : wrap64 ((i : Int) + 1) = ((i + 1 : Nat) : Int) := by rw [Pl.w64 (by omega) (by omega)]; rfl
  refine Ev.step (fun k => ?_) (ih (i + 1) hie);have hel : ((eachL G d n (l.getD j 0)).length : Int) = (n : Int) := by rw [eachL_length]
  have hrl : ((rowsOf G n (fun i' t => if t < j ∨ (t = j ∧ i' < i) then Cw.fr (d * i') (G.el (l.getD t 0)) else if t = n then ρ i' else 0)).length : Int) = (n : Int) := by rw [rowsOf_length]
  have hrr := rowsOf_rd G n (fun i' t => if t < j ∨ (t = j ∧ i' < i) then Cw.fr (d * i') (G.el (l.getD t 0)) else if t = n then ρ i' else 0) hin;have c2 : (0 : Int) ≤ (i : Int) := by omega
  have c3 : (0 : Int) ≤ (j : Int) := by omega
  have c4 : (j : Int) < ((n + 1 : Nat) : Int) := by omega
  simp only [tower_system.l2];rw [hel, hrl, hrr, eachL_rd G d n _ hin, mrow_length, if_pos c1, if_pos c2, if_pos c1, if_pos c1, if_pos c3, if_pos c4, hi1, Int.toNat_natCast, Int.toNat_natCast];unfold frN
  rw [mrow_set, rowsOf_set];congr 1
  refine rowsOf_congr G n (fun i' t h1 h2 => ?_);by_cases e1 : i' = i
  ·rw [if_pos e1, e1];by_cases e2 : t = j
   ·rw [if_pos e2, if_pos (by omega), e2]
   rw [if_neg e2];exact iteq (by omega) _ _
  rw [if_neg e1];exact iteq (by omega) _ _
theorem sys_l1 (hn8 : n ≤ 8) (hl : l.length = n) (hd1 : 1 ≤ d) (hdm : d ∣ G.F.m) (hn : n = G.F.m / d) : ∀ e j, j + e = n →
  Ev (fun k => tower_system.l1 k G (d : Int) (rowsOf G n (fun i t => if t < j then Cw.fr (d * i) (G.el (l.getD t 0)) else if t = n then ρ i else 0)) l (n : Int) (j : Int)) (rowsOf G n (sysM G d n l ρ)) := by
 intro e;induction e with
 | zero =>
  intro j hj;obtain rfl : j = n := by omega
  refine Ev.step (f := fun _ => some _) (fun k => ?_) (Ev.now _);simp only [tower_system.l1];rw [if_neg (by omega)];congr 1
  refine rowsOf_congr G j (fun i t h1 h2 => ?_);unfold sysM
  by_cases h3 : t < j
  ·rw [if_pos h3, if_pos h3]
  rw [if_neg h3, if_neg h3, if_pos (by omega)]
 | succ e ih =>
  intro j hj;have hjn : j < n := by omega
  have c1 : (j : Int) < (n : Int) := by omega
  have c2 : (0 : Int) ≤ (j : Int) := by omega
  have hje : j + 1 + e = n := by omega
  have hll : (l.length : Int) = (n : Int) := by rw [hl]
  have hev := each_ev G d hd1 hdm (rd l (j : Int));rw [← hn] at hev;have hrd : rd l (j : Int) = l.getD j 0 := by unfold rd; rw [Int.toNat_natCast]
  have h2 := sys_l2 G d n l ρ hn8 hl j hjn _ (ih (j + 1) hje) n 0 (by omega);refine Ev.step (fun k => by simp only [tower_system.l1]; rw [if_pos c1, if_pos c2, hll, if_pos c1]) (Ev.bind hev ?_);rw [hrd, eachL_length];refine Ev.congr (fun k => ?_) h2;congr 1
  refine rowsOf_congr G n (fun i t h1 h3 => ?_);exact iteq (by omega) _ _
theorem sys_l0 (hn8 : n ≤ 8) (hl : l.length = n) (R : List (List Int)) (hR : Ev (fun k => tower_system.l1 k G (d : Int) (rowsOf G n (fun i t => if t < 0 then Cw.fr (d * i) (G.el (l.getD t 0)) else if t = n then ρ i else 0)) l (n : Int) ((0 : Nat) : Int)) R) :
  ∀ e i, i + e = n → Ev (fun k => tower_system.l0 k G l (d : Int) (numsL G n ρ) ((rowsOf G n (fun i t => if t < 0 then Cw.fr (d * i) (G.el (l.getD t 0)) else if t = n then ρ i else 0)).take i ++ List.replicate e []) (n : Int) (i : Int)) R := by
 intro e;have hll : (l.length : Int) = (n : Int) := by rw [hl]
 have hrl := rowsOf_length G n (fun i t => if t < 0 then Cw.fr (d * i) (G.el (l.getD t 0)) else if t = n then ρ i else 0);induction e with
 | zero =>
  intro i hi;obtain rfl : i = n := by omega
  refine Ev.step (fun k => ?_) hR;simp only [tower_system.l0];rw [if_neg (by omega), List.take_of_length_le (by omega), List.replicate_zero, List.append_nil, hll];rfl
 | succ e ih =>
  intro i hi;have hin : i < n := by omega
  have c1 : (i : Int) < (n : Int) := by omega
  have c2 : (0 : Int) ≤ (i : Int) := by omega
  have hie : i + 1 + e = n := by omega
  have hi1 : wrap64 ((i : Int) + 1) = ((i + 1 : Nat) : Int) := by rw [Pl.w64 (by omega) (by omega)]; rfl
  have hn1 : wrap64 ((n : Int) + 1) = ((n + 1 : Nat) : Int) := by rw [Pl.w64 (by omega) (by omega)]; rfl
  have c3 : (0 : Int) ≤ ((n + 1 : Nat) : Int) := by omega
  have c4 : n + 1 ≤ 35184372088832 := by omega
  have c5 : (0 : Int) ≤ (n : Int) := by omega
  have c6 : (n : Int) < ((n + 1 : Nat) : Int) := by omega
  have hlen : ((((rowsOf G n (fun i t => if t < 0 then Cw.fr (d * i) (G.el (l.getD t 0)) else if t = n then ρ i else 0)).take i ++ List.replicate (e + 1) []).length : Nat) : Int) = (n : Int) := by
   rw [List.length_append, List.length_take, hrl, List.length_replicate]; omega
  have hrow0 : List.replicate (n + 1) (0 : Int) = mrow G n (fun _ => 0) := by
   apply List.ext_getElem?
   intro t;unfold mrow
   rw [List.getElem?_map, List.getElem?_replicate];by_cases ht : t < n + 1
   ·rw [List.getElem?_range ht, if_pos ht];show some (0 : Int) = some (G.num 0)
    rw [G.num_zero]
   rw [if_neg ht, List.getElem?_eq_none (by rw [List.length_range]; omega)];rfl
  have hnl : ((numsL G n ρ).length : Int) = (n : Int) := by rw [numsL_length]
  have hset : ∀ x : List Int, (((rowsOf G n (fun i t => if t < 0 then Cw.fr (d * i) (G.el (l.getD t 0)) else if t = n then ρ i else 0)).take i ++ List.replicate (e + 1) []).set i x) = (rowsOf G n (fun i t => if t < 0 then Cw.fr (d * i) (G.el (l.getD t 0)) else if t = n then ρ i else 0)).take i ++ x :: List.replicate e [] := by
   intro x;rw [List.set_append_right _ _ (by rw [List.length_take, hrl]; omega), List.length_take, hrl, Nat.min_eq_left (by omega), Nat.sub_self, List.replicate_succ, List.set_cons_zero]
  have hget : ∀ x : List Int, rd_L2 ((rowsOf G n (fun i t => if t < 0 then Cw.fr (d * i) (G.el (l.getD t 0)) else if t = n then ρ i else 0)).take i ++ x :: List.replicate e []) (i : Int) = x := by
   intro x;unfold rd_L2
   rw [Int.toNat_natCast, List.getD_eq_getElem?_getD, List.getElem?_append_right (by rw [List.length_take, hrl]; omega), List.length_take, hrl, Nat.min_eq_left (by omega), Nat.sub_self];rfl
  have hset2 : ∀ x y : List Int, ((rowsOf G n (fun i t => if t < 0 then Cw.fr (d * i) (G.el (l.getD t 0)) else if t = n then ρ i else 0)).take i ++ x :: List.replicate e []).set i y = (rowsOf G n (fun i t => if t < 0 then Cw.fr (d * i) (G.el (l.getD t 0)) else if t = n then ρ i else 0)).take i ++ y :: List.replicate e [] := by
   intro x y;rw [List.set_append_right _ _ (by rw [List.length_take, hrl]; omega), List.length_take, hrl, Nat.min_eq_left (by omega), Nat.sub_self, List.set_cons_zero]
  have hfin : (rowsOf G n (fun i t => if t < 0 then Cw.fr (d * i) (G.el (l.getD t 0)) else if t = n then ρ i else 0)).take i ++ (mrow G n (fun t => if t = n then ρ i else 0)) :: List.replicate e [] = (rowsOf G n (fun i t => if t < 0 then Cw.fr (d * i) (G.el (l.getD t 0)) else if t = n then ρ i else 0)).take (i + 1) ++ List.replicate e [] := by
   have hlt : i < (rowsOf G n (fun i t => if t < 0 then Cw.fr (d * i) (G.el (l.getD t 0)) else if t = n then ρ i else 0)).length := by rw [hrl]; exact hin
   rw [← List.take_append_getElem hlt, List.append_assoc];congr 1
   have : (rowsOf G n (fun i t => if t < 0 then Cw.fr (d * i) (G.el (l.getD t 0)) else if t = n then ρ i else 0))[i] = mrow G n (fun t => if t = n then ρ i else 0) := by
    have h9 : (rowsOf G n (fun i t => if t < 0 then Cw.fr (d * i) (G.el (l.getD t 0)) else if t = n then ρ i else 0))[i]? = some (mrow G n (fun t => if t < 0 then Cw.fr (d * i) (G.el (l.getD t 0)) else if t = n then ρ i else 0)) := by
     unfold rowsOf
     rw [List.getElem?_map, List.getElem?_range hin]; rfl
    rw [List.getElem?_eq_getElem hlt] at h9;rw [Option.some.inj h9];exact mrow_congr G (fun t ht => by rw [if_neg (by omega)])
   rw [this];rfl
  refine Ev.step (fun k => ?_) (ih (i + 1) hie);simp only [tower_system.l0];rw [if_pos c1, hll, hn1, if_pos c3, Int.toNat_natCast, if_pos c4, if_pos c2, if_pos (by rw [hlen]; exact c1), Option.bind_some, hnl, if_pos c1, if_pos c5, Int.toNat_natCast, hset, hget, hset2, hrow0, mrow_length, if_pos c6, hi1, Int.toNat_natCast, numsL_rd G n ρ hin, mrow_set, hfin]
theorem system_ev (hn1 : 1 ≤ n) (hn8 : n ≤ 8) (hl : l.length = n) (hd1 : 1 ≤ d) (hdm : d ∣ G.F.m) (hn : n = G.F.m / d) :
  Ev (fun k => tower_system.f k G l (d : Int) (numsL G n ρ)) (rowsOf G n (sysM G d n l ρ)) := by
 have h1 := sys_l1 G d n l ρ hn8 hl hd1 hdm hn n 0 (by omega);have h0 := sys_l0 G d n l ρ hn8 hl _ h1 n 0 (by omega);refine Ev.congr (fun k => ?_) h0;have hnl : ((numsL G n ρ).length : Int) = (n : Int) := by rw [numsL_length]
 unfold tower_system.f
 rw [hnl, if_pos (by omega), Int.toNat_natCast, if_pos (by omega), Option.bind_some, List.length_replicate];rfl
end
end Go.Proofs.Ytlbddjojhcgpiaa.Pl
end
-- Hb
section
namespace Go.Proofs.Ytlbddjojhcgpiaa.Hand
noncomputable section
open Go.RowKit Go.Proofs.Ytlbddjojhcgpiaa.P Go.Proofs.YtlbddjojhcgpiaaW.PrintWords Go.Proofs.YtlbddjojhcgpiaaW.PrintLast Go.Proofs.YtlbddjojhcgpiaaW.PrintMore Go.Proofs.Ytlbddjojhcgpiaa.Pl
def elL (G : GFv) (l : List Int) (j : Nat) : Cw.El G.F := G.el (l.getD j 0)
theorem sys_congr {G : GFv} {d n : Nat} {l : List Int} {ρ : Nat → Cw.El G.F} {v : Nat → Cw.El G.F} {i : Nat} : Cw.sm (n + 1) (fun j => sysM G d n l ρ i j * v j) = Cw.sm n (fun j => Cw.fr (d * i) (elL G l j) * v j) + ρ i * v n := by
 rw [Cw.sm_succ];congr 1
 ·refine Cw.sm_congr (fun j hj => ?_);unfold sysM
  rw [if_pos hj];rfl
 unfold sysM
 rw [if_neg (Nat.lt_irrefl n)]
theorem good_inj {G : GFv} {d n : Nat} {l : List Int} {ρ x : Nat → Cw.El G.F} (h : Cw.Good n (sysM G d n l ρ) x) : Cw.Inj d n (elL G l) := by
 intro v hv j hj
 have h1 := (h (fun t => if t < n then v t else 0)).1 (fun i hi => by
  rw [sys_congr, if_neg (Nat.lt_irrefl n), Cw.mul_zero, Cw.add_zero, ← hv i hi];exact Cw.sm_congr (fun t ht => by rw [if_pos ht])) j hj
 rw [if_pos hj, if_neg (Nat.lt_irrefl n), Cw.mul_zero, Cw.add_zero] at h1;exact h1
theorem bad_inj {G : GFv} {d n : Nat} {l : List Int} {ρ : Nat → Cw.El G.F} (h : Cw.Bad n (sysM G d n l ρ)) : ¬ Cw.Inj d n (elL G l) := by
 intro hI;obtain ⟨v, h0, ⟨j, hj, hne⟩, hs⟩ := h;refine hne (hI v (fun i hi => ?_) j hj);have := hs i hi;rw [sys_congr, h0, Cw.mul_zero, Cw.add_zero] at this;exact this
theorem isDegree_no {G : GFv} {d : Int} (h : ¬ Dv G d) : tower_isDegree.f G d = some false := by
 classical
 rw [isDegree_f, decide_eq_false h]
theorem isDegree_yes {G : GFv} {d : Nat} (hd1 : 1 ≤ d) (hdm : d ∣ G.F.m) : tower_isDegree.f G (d : Int) = some true := by
 classical
 rw [isDegree_f, decide_eq_true ⟨d, rfl, hd1, hdm⟩]
theorem solve_calls (gb n R cR : Nat) (G : GFv) (rb0 cp0 : Nat → Nat) (A0 : Nat → Nat → Cw.El G.F) (hn : 1 ≤ n) (hn8 : n ≤ 8) (w0 w : World) (hg0 : GFok w0 gb G) (hB0 : Below w0.heap.size w0 w) (hM0 : MX G w w0.heap.size R n rb0 cp0 A0) :
  Calls Try.prog 40 #[.pointer (some ⟨gb, 0, none⟩), .slice (some ⟨R, 0, none⟩) n cR] w fun e w' => ∃ v b, e = .returned (.tuple #[v, .bool b]) ∧ Below w0.heap.size w0 w' ∧ ((b = false ∧ Cw.Bad n A0) ∨ (b = true ∧ ∃ x, Kd.R (Kd.int .i64) 3 w' w0.heap.size (fun _ => True) v (numsL G n x) ∧ Cw.Good n A0 x)) :=
 (solve_walk gb n R cR G rb0 cp0 A0 hn hn8 w0 w hg0 hB0 hM0).mono fun e w' ⟨h1, h2⟩ => h2.elim (fun ⟨h3, h4⟩ => ⟨_, false, h3, h1, Or.inl ⟨rfl, h4⟩⟩) (fun ⟨v, x, h3, h4, h5⟩ => ⟨v, true, h3, h1, Or.inr ⟨rfl, x, h4, h5⟩⟩)
open Classical in
def tower_basis.f (G : GFv) (l : List Int) (d : Int) : Option Int :=
 if ¬ Dv G d then some 6 else if l.length ≠ G.F.m / d.toNat then some 9 else if Cw.Inj d.toNat (G.F.m / d.toNat) (elL G l) then some 0 else some 9
set_option maxHeartbeats 4000000 in
theorem basis_no (gb : Nat) (G : GFv) (A1 : Option Addr) (c1 : Nat) (l : List Int) (d : Int) (hd : ¬ Dv G d) (w : World) (hg0 : GFok w gb G) :
  Calls Try.prog 39 #[.pointer (some ⟨gb, 0, none⟩), .slice A1 l.length c1, .int .i64 d] w fun e w' => e = .returned (.int .i64 6) ∧ Below w.heap.size w w' := by
 have hi := tower_isDegree.calls gb G d false w hg0 (isDegree_no hd);go_enter Try.func39, Try.ntmps39
 go_wp2_with (first | (go_at_call 46; refine hi.mono ?_; clear hi; rintro e w2 ⟨rfl, hb2⟩))
 go_ret
 exact ⟨rfl, hb2⟩
theorem each_calls (gb : Nat) (G : GFv) (d : Nat) (hd1 : 1 ≤ d) (hdm : d ∣ G.F.m) (x : Int) (w : World) (hg0 : GFok w gb G) :
  Calls Try.prog 48 #[.pointer (some ⟨gb, 0, none⟩), .int .i64 x, .int .i64 (d : Int)] w fun e w' => ∃ A c, e = .returned (.slice A (G.F.m / d) c) ∧ G.F.m / d ≤ c ∧ Kd.C (Kd.int .i64) w' A (G.F.m / d) (eachL G d (G.F.m / d) x) ∧ Below w.heap.size w w' := by
 obtain ⟨k, hk⟩ := (each_ev G d hd1 hdm x).rounds;refine (tower_each.calls k gb G x (d : Int) _ w hg0 hk).mono ?_;rintro e w' ⟨v, he, hR, hb⟩;obtain ⟨A, c, rfl⟩ := Kd.R_slice hR;have h := Kd.R_reads' hR;rw [eachL_length] at h he hR;exact ⟨A, c, he, h.2.1, h.2.2, hb⟩
theorem eachL_nums (G : GFv) (d n : Nat) (x : Int) : eachL G d n x = numsL G n (fun i => Cw.fr (d * i) (G.el x)) := rfl
theorem system_calls (gb : Nat) (G : GFv) (d n : Nat) (hd1 : 1 ≤ d) (hdm : d ∣ G.F.m) (hn : n = G.F.m / d) (A1 A3 : Option Addr) (c1 c3 : Nat) (l : List Int) (hl : l.length = n) (ρ : Nat → Cw.El G.F) (w : World) (hg0 : GFok w gb G)
  (hr1 : Kd.C (Kd.int .i64) w A1 l.length l) (hc1 : l.length ≤ c1) (hr3 : Kd.C (Kd.int .i64) w A3 n (numsL G n ρ)) (hc3 : n ≤ c3) :
  Calls Try.prog 41 #[.pointer (some ⟨gb, 0, none⟩), .slice A1 l.length c1, .int .i64 (d : Int), .slice A3 n c3] w fun e w' => ∃ R cR rb cp, e = .returned (.slice (some ⟨R, 0, none⟩) n cR) ∧ MX G w' w.heap.size R n rb cp (sysM G d n l ρ) ∧ Below w.heap.size w w' := by
 have hm := G.m_le;have hdl := Nat.le_of_dvd G.m_pos hdm;have hn1 : 1 ≤ n := by rw [hn]; exact Nat.div_pos hdl (by omega)
 have hn8 : n ≤ 8 := by rw [hn]; exact Nat.le_trans (Nat.div_le_self _ _) hm
 obtain ⟨k, hk⟩ := (system_ev G d n l ρ hn1 hn8 hl hd1 hdm hn).rounds;have hs := tower_system.calls k gb G A1 c1 l (d : Int) A3 c3 (numsL G n ρ) _ w hg0 hr1 hc1 (by rw [numsL_length]; exact hr3) (by rw [numsL_length]; exact hc3) hk;rw [numsL_length] at hs;refine hs.mono ?_;rintro e w' ⟨v, he, hS, hb⟩;obtain ⟨R, cR, rb, cp, rfl, hM⟩ := MX.of_S (by omega) hS rfl;exact ⟨R, cR, rb, cp, he, hM, hb⟩
set_option maxHeartbeats 4000000 in
theorem basis_len (gb : Nat) (G : GFv) (A1 : Option Addr) (c1 : Nat) (l : List Int) (d : Nat) (hd1 : 1 ≤ d) (hdm : d ∣ G.F.m) (hl : l.length ≠ G.F.m / d) (w : World) (hg0 : GFok w gb G) :
  Calls Try.prog 39 #[.pointer (some ⟨gb, 0, none⟩), .slice A1 l.length c1, .int .i64 (d : Int)] w fun e w' => e = .returned (.int .i64 9) ∧ Below w.heap.size w w' := by
 have hi := tower_isDegree.calls gb G (d : Int) true w hg0 (isDegree_yes hd1 hdm);obtain ⟨n, hn⟩ : ∃ n, n = G.F.m / d := ⟨_, rfl⟩;have he := fun w2 (hg2 : GFok w2 gb G) => each_calls gb G d hd1 hdm 0 w2 hg2
 rw [← hn] at he hl;have c1b : ((l.length : Int) != (n : Int)) = true := bne_iff_ne.2 (by omega);have c2b : ¬ l.length = n := hl;go_enter Try.func39, Try.ntmps39
 go_wp2_with (first | (go_at_call 46; refine hi.mono ?_; clear hi; rintro e w2 ⟨rfl, hb2⟩; have he2 := he w2 (hg0.below hb2); clear he) | (go_at_call 48; refine he2.mono ?_; clear he2; rintro e w3 ⟨A3, c3, rfl, hc3, hr3, hb3⟩))
 go_ret
 exact ⟨rfl, hb2.trans (hb3.mono hb2.size)⟩
set_option maxHeartbeats 4000000 in
theorem basis_go (gb : Nat) (G : GFv) (A1 : Option Addr) (c1 : Nat) (l : List Int) (d n : Nat) (hd1 : 1 ≤ d) (hdm : d ∣ G.F.m) (hn : n = G.F.m / d) (hl : l.length = n) (w : World) (hg0 : GFok w gb G) (hr1 : Kd.C (Kd.int .i64) w A1 l.length l) (hc1 : l.length ≤ c1) :
  Calls Try.prog 39 #[.pointer (some ⟨gb, 0, none⟩), .slice A1 l.length c1, .int .i64 (d : Int)] w fun e w' => ((e = .returned (.int .i64 0) ∧ Cw.Inj d n (elL G l)) ∨ (e = .returned (.int .i64 9) ∧ ¬ Cw.Inj d n (elL G l))) ∧ Below w.heap.size w w' := by
 have hm := G.m_le;have hdl := Nat.le_of_dvd G.m_pos hdm;have hn1 : 1 ≤ n := by rw [hn]; exact Nat.div_pos hdl (by omega)
 have hn8 : n ≤ 8 := by rw [hn]; exact Nat.le_trans (Nat.div_le_self _ _) hm
 have hi := tower_isDegree.calls gb G (d : Int) true w hg0 (isDegree_yes hd1 hdm);have he := fun w2 (hg2 : GFok w2 gb G) => each_calls gb G d hd1 hdm 0 w2 hg2
 rw [← hn] at he;have c1b : ((l.length : Int) != (n : Int)) = false := bne_eq_false_iff_eq.2 (by omega);have HN := Q9a.mk hn;have HL := Q9a.mk hl;have HR1 := Q9a.mk hr1;have HC1 := Q9a.mk hc1;have HG := Q9a.mk hg0;have HN1 := Q9a.mk hn1;have HN8 := Q9a.mk hn8;clear hn hr1 hc1 hm hdl hn1 hn8 hg0;go_enter Try.func39, Try.ntmps39
 go_wp2_with (first | (go_at_call 46; refine hi.mono ?_; clear hi; rintro e w2 ⟨rfl, hb2⟩; have HB := Q9a.mk hb2; clear hb2; have he2 := he w2 (HG.out.below HB.out); clear he) | (go_at_call 48; refine he2.mono ?_; clear he2; rintro e w3 ⟨A3, c3, rfl, hc3, hr3, hb3⟩; have nb_ := Q9a.mk (bP HB.out hb3); clear HB; have HB := nb_; clear nb_; rw [eachL_nums] at hr3; have hsy := system_calls gb G d n hd1 hdm HN.out A1 A3 c1 c3 l HL.out _ w3 (HG.out.below HB.out) (Kd.cB HR1.out HB.out) HC1.out hr3 hc3; rw [HL.out] at hsy; clear hr3 hc3 hb3) | (go_at_call 41; refine hsy.mono ?_; clear hsy; rintro e w4 ⟨R, cR, rb, cp, rfl, hM, hb4⟩; have hso := solve_calls gb n R cR G rb cp _ HN1.out HN8.out w3 w4 (HG.out.below HB.out) hb4 hM; clear hM hb4) | (go_at_call 40; refine hso.mono ?_; clear hso; rintro e w5 ⟨v, b, rfl, hb5, hor⟩; have HOR := Q9a.mk hor; have nb_ := Q9a.mk (bP HB.out hb5); clear HB hor hb5; have HB := nb_; clear nb_))
 ·rename_i hb9
  go_ret
  refine ⟨Or.inr ⟨rfl, ?_⟩, HB.out⟩;rcases HOR.out with ⟨h1, h2⟩ | ⟨h1, _⟩
  ·exact bad_inj h2
  rw [h1] at hb9
  cases hb9
 rename_i hb9
 go_ret
 refine ⟨Or.inl ⟨rfl, ?_⟩, HB.out⟩;rcases HOR.out with ⟨h1, _⟩ | ⟨_, x, _, h2⟩
 ·rw [h1] at hb9
  cases hb9
 exact good_inj h2
theorem tower_basis.calls (b_a0 : Nat) (a0 : GFv) (A1 : Option Addr) (c1 : Nat) (l1 : List Int) (a2 : Int) (r : Int) (w : World) (hg0 : GFok w b_a0 a0) (hr1 : Kd.C (Kd.int .i64) w A1 l1.length l1) (hc1 : l1.length ≤ c1) (h : tower_basis.f a0 l1 a2 = some r) :
  Calls Try.prog 39 #[.pointer (some ⟨b_a0, 0, none⟩), .slice A1 l1.length c1, .int .i64 a2] w fun e w' => e = .returned (.int .i64 r) ∧ Below w.heap.size w w' := by
 classical
 unfold tower_basis.f at h
 by_cases hd : Dv a0 a2
 ·rw [if_neg (fun hn => hn hd)] at h;obtain ⟨d, rfl, hd1, hdm⟩ := hd;rw [Int.toNat_natCast] at h;by_cases hl : l1.length = a0.F.m / d
  ·rw [if_neg (fun hn => hn hl)] at h;refine (basis_go b_a0 a0 A1 c1 l1 d _ hd1 hdm rfl hl w hg0 hr1 hc1).mono ?_;rintro e w' ⟨h1, h2⟩;refine ⟨?_, h2⟩;rcases h1 with ⟨h3, h4⟩ | ⟨h3, h4⟩
   ·rw [if_pos h4] at h;rw [h3, ← Option.some.inj h]
   rw [if_neg h4] at h;rw [h3, ← Option.some.inj h]
  rw [if_pos hl] at h;obtain rfl := Option.some.inj h;exact basis_len b_a0 a0 A1 c1 l1 d hd1 hdm hl w hg0
 rw [if_pos hd] at h;obtain rfl := Option.some.inj h;exact basis_no b_a0 a0 A1 c1 l1 a2 hd w hg0
end
end Go.Proofs.Ytlbddjojhcgpiaa.Hand
end
-- BB1
section
namespace Go.Proofs.Ytlbddjojhcgpiaa.P
noncomputable section
open Go.RowKit Go.Proofs.Ytlbddjojhcgpiaa.Hand Go.Proofs.YtlbddjojhcgpiaaW.PrintWords Go.Proofs.YtlbddjojhcgpiaaW.PrintLast Go.Proofs.YtlbddjojhcgpiaaW.PrintMore
set_option linter.unusedVariables false
set_option linter.unusedSimpArgs false
def l7alive.f (k : Nat)  : Option (Bool) := (l7made.f 2 4 (([1, 1, 0, 0] : List Int))).bind fun t104 => (optE t104 (some false) (fun q105 => ((tower_Subfield.f q105 2).bind fun bt106 => ((tower_Trace.f k q105 8 1).bind fun bt110 => (if bt106.2 = 0 then ((l7same.f k bt106.1 (([0, 1, 6, 7] : List Int))).bind fun t115 => (if t115 = true then (if bt110.2 = 0 then (if bt110.1 = 1 then ((tower_Degree.f k q105 2).bind fun t116 => (some (t116 == 4))) else (some false)) else (some false)) else (some false))) else (some false))))))
theorem l7alive.calls (k : Nat)  (r : Bool) (w : World) (h : l7alive.f k  = some r) :
  Calls Try.prog 10 #[] w fun e w' => e = .returned (.bool r) ∧ Below w.heap.size w w' := by
 have hu24 := Try.underlying24;have HB := Q9a.mk (Below.refl w.heap.size w);have H : ((l7made.f 2 4 (([1, 1, 0, 0] : List Int))).bind fun t104 => (optE t104 (some false) (fun q105 => ((tower_Subfield.f q105 2).bind fun bt106 => ((tower_Trace.f k q105 8 1).bind fun bt110 => (if bt106.2 = 0 then ((l7same.f k bt106.1 (([0, 1, 6, 7] : List Int))).bind fun t115 => (if t115 = true then (if bt110.2 = 0 then (if bt110.1 = 1 then ((tower_Degree.f k q105 2).bind fun t116 => (some (t116 == 4))) else (some false)) else (some false)) else (some false))) else (some false))))))) = some r := h;clear h;obtain ⟨y101, hy101⟩ : ∃ y_ : List Int, y_ = (([1, 1, 0, 0] : List Int)) := ⟨_, rfl⟩;replace H : ((l7made.f 2 4 y101).bind fun t104 => (optE t104 (some false) (fun q105 => ((tower_Subfield.f q105 2).bind fun bt106 => ((tower_Trace.f k q105 8 1).bind fun bt110 => (if bt106.2 = 0 then ((l7same.f k bt106.1 (([0, 1, 6, 7] : List Int))).bind fun t115 => (if t115 = true then (if bt110.2 = 0 then (if bt110.1 = 1 then ((tower_Degree.f k q105 2).bind fun t116 => (some (t116 == 4))) else (some false)) else (some false)) else (some false))) else (some false))))))) = some r := by first | (rw [hy101]; with_reducible exact H) | (have H2_ := (Option.bind_some _ _).symm.trans H; rw [hy101]; with_reducible exact H2_) | (have H2_ := (Option.bind_some _ _).symm.trans H; with_reducible exact H2_) | with_reducible exact H | (rw [hy101]; exact H) | exact H
 have Ny101 := Q9a.mk hy101;clear hy101;replace H := Option.bind_eq_some_iff.mp H;obtain ⟨t104, A10, H⟩ := H;replace H : (optE t104 (some false) (fun q105 => ((tower_Subfield.f q105 2).bind fun bt106 => ((tower_Trace.f k q105 8 1).bind fun bt110 => (if bt106.2 = 0 then ((l7same.f k bt106.1 (([0, 1, 6, 7] : List Int))).bind fun t115 => (if t115 = true then (if bt110.2 = 0 then (if bt110.1 = 1 then ((tower_Degree.f k q105 2).bind fun t116 => (some (t116 == 4))) else (some false)) else (some false)) else (some false))) else (some false)))))) = some r := H;have A1 := Q9a.mk A10;clear A10;rcases t104 with _ | q105
 ·have H1 : (some false) = some r := H;clear H;have H := H1;clear H1;obtain rfl := Option.some.inj H;go_enter Try.func10, Try.ntmps10
  go_wp2_with (first | ((with_reducible refine gD (N := 6) rfl ?_); (try (refine gG (by rfl) ?_; dsimp only)); refine Kd.R_lit (Kd.int .i64) _ 3 ?hg (N := 6) ?hd (xs := ([1, 1, 0, 0] : List Int)) (inner := [.int .i64 1, .int .i64 1, .int .i64 0, .int .i64 0]) (ok := fun _ => True) (okp := fun _ => True) ?hr ?hp (fun _ hk => hk) trivial (Below.refl _ _) (Nat.le_refl _) (by simp) ?_; (case hd => rfl); (case hg => rfl); (case hr => first | (go_simp; done) | (go_simp; rfl)); (case hp => exact (Reps.one (show Kd.M (Kd.int .i64) _ _ _ 1 [.int .i64 1] from rfl) (Reps.one (show Kd.M (Kd.int .i64) _ _ _ 1 [.int .i64 1] from rfl) (Reps.one (show Kd.M (Kd.int .i64) _ _ _ 0 [.int .i64 0] from rfl) (Reps.one (show Kd.M (Kd.int .i64) _ _ _ 0 [.int .i64 0] from rfl) (Reps.none _ _)))))); intro v102 w2 ho3 hb hg_ hnew_; clear hg_ hnew_; (first | rw [← Ny101.out] at ho3 | (simp only [Int.reduceToNat] at ho3; rw [← Ny101.out] at ho3)); have n0_ := Q9a.mk (Kd.rL ho3 (bZ (by repeat (first | (with_reducible first | exact HB.out | apply bA | apply bN | apply bD) | exact HB.out)))); have n1_ := Q9a.mk (bP (by repeat (first | (with_reducible first | exact HB.out | apply bA | apply bN | apply bD) | exact HB.out)) hb); clear HB; have HO103 := n0_; have HB := n1_; clear n0_ n1_; clear hb ho3; obtain ⟨Ao4, co4, eo4⟩ := Kd.R_slice HO103.out; subst eo4) | ((with_reducible refine gC (f := 11) rfl ?_); refine gL (some 8) rfl rfl Try.func11 (by kernel_rfl) rfl #[.agg #[.int .i64 2, .int .i64 4, .slice Ao4 y101.length co4]] rfl (by (try simp only [sm1, sm2, sm3]); first | done | rfl | (simp only [sm4, sm5]; rfl)) ?_; (with_reducible refine (l7made.calls 2 4 _ _ y101 none _ ?side1 ?side2 A1.out).mono ?_); (case side1 => repeat (first | exact (Kd.R_reads' HO103.out).2.2 | with_reducible first | refine Kd.cA ?_ _ | refine Kd.cN ?_ _ | refine Kd.cD ?_)); (case side2 => exact (Kd.R_reads' HO103.out).2.1); rintro e w5 ⟨b_, rfl, hb, hgo⟩; refine ⟨_, rfl, ?_⟩; have n0_ := Q9a.mk (Kd.R_below (by (with_reducible repeat (first | apply Kd.rA | apply Kd.rN | apply Kd.rD)); exact HO103.out) hb); have n1_ := Q9a.mk (bP (by repeat (first | (with_reducible first | exact HB.out | apply bA | apply bN | apply bD) | exact HB.out)) hb); clear HO103; clear HB; have HO103 := n0_; have HB := n1_; clear n0_ n1_; (try simp only [gfW_none, gfW_some])))
  go_ret
  exact ⟨by first | rfl | (simp [*, eN, eS] <;> rfl), by repeat (first | (with_reducible first | exact HB.out | apply bA | apply bN | apply bD) | exact HB.out)⟩
 have H1 : ((tower_Subfield.f q105 2).bind fun bt106 => ((tower_Trace.f k q105 8 1).bind fun bt110 => (if bt106.2 = 0 then ((l7same.f k bt106.1 (([0, 1, 6, 7] : List Int))).bind fun t115 => (if t115 = true then (if bt110.2 = 0 then (if bt110.1 = 1 then ((tower_Degree.f k q105 2).bind fun t116 => (some (t116 == 4))) else (some false)) else (some false)) else (some false))) else (some false)))) = some r := H;clear H;have H := H1;clear H1;replace H := Option.bind_eq_some_iff.mp H;obtain ⟨⟨t106, t107⟩, A60, H⟩ := H;replace H : ((tower_Trace.f k q105 8 1).bind fun bt110 => (if t107 = 0 then ((l7same.f k t106 (([0, 1, 6, 7] : List Int))).bind fun t115 => (if t115 = true then (if bt110.2 = 0 then (if bt110.1 = 1 then ((tower_Degree.f k q105 2).bind fun t116 => (some (t116 == 4))) else (some false)) else (some false)) else (some false))) else (some false))) = some r := H;have A6 := Q9a.mk A60;clear A60;replace H := Option.bind_eq_some_iff.mp H;obtain ⟨⟨t110, t111⟩, A70, H⟩ := H;replace H : (if t107 = 0 then ((l7same.f k t106 (([0, 1, 6, 7] : List Int))).bind fun t115 => (if t115 = true then (if t111 = 0 then (if t110 = 1 then ((tower_Degree.f k q105 2).bind fun t116 => (some (t116 == 4))) else (some false)) else (some false)) else (some false))) else (some false)) = some r := H;have A7 := Q9a.mk A70;clear A70;by_cases c8 : t107 = 0
 ·rw [if_pos c8] at H;have c8b0 : (t107 == 0) = true := beq_iff_eq.mpr c8;have c8b1 : (t107 != 0) = false := bne_eq_false_iff_eq.mpr c8;clear c8;obtain ⟨y112, hy112⟩ : ∃ y_ : List Int, y_ = (([0, 1, 6, 7] : List Int)) := ⟨_, rfl⟩;replace H : ((l7same.f k t106 y112).bind fun t115 => (if t115 = true then (if t111 = 0 then (if t110 = 1 then ((tower_Degree.f k q105 2).bind fun t116 => (some (t116 == 4))) else (some false)) else (some false)) else (some false))) = some r := by first | (rw [hy112]; with_reducible exact H) | (have H2_ := (Option.bind_some _ _).symm.trans H; rw [hy112]; with_reducible exact H2_) | (have H2_ := (Option.bind_some _ _).symm.trans H; with_reducible exact H2_) | with_reducible exact H | (rw [hy112]; exact H) | exact H
  have Ny112 := Q9a.mk hy112;clear hy112;replace H := Option.bind_eq_some_iff.mp H;obtain ⟨t115, A90, H⟩ := H;replace H : (if t115 = true then (if t111 = 0 then (if t110 = 1 then ((tower_Degree.f k q105 2).bind fun t116 => (some (t116 == 4))) else (some false)) else (some false)) else (some false)) = some r := H;have A9 := Q9a.mk A90;clear A90;by_cases c10 : t115 = true
  ·subst c10;have H1 : (if t111 = 0 then (if t110 = 1 then ((tower_Degree.f k q105 2).bind fun t116 => (some (t116 == 4))) else (some false)) else (some false)) = some r := by rw [if_pos rfl] at H; exact H
   clear H;have H := H1;clear H1;by_cases c11 : t111 = 0
   ·rw [if_pos c11] at H;have c11b0 : (t111 == 0) = true := beq_iff_eq.mpr c11;have c11b1 : (t111 != 0) = false := bne_eq_false_iff_eq.mpr c11;clear c11;by_cases c12 : t110 = 1
    ·rw [if_pos c12] at H;have c12b0 : (t110 == 1) = true := beq_iff_eq.mpr c12;have c12b1 : (t110 != 1) = false := bne_eq_false_iff_eq.mpr c12;clear c12;replace H := Option.bind_eq_some_iff.mp H;obtain ⟨t116, A130, H⟩ := H;replace H : (some (t116 == 4)) = some r := H;have A13 := Q9a.mk A130;clear A130;obtain rfl := Option.some.inj H;go_enter Try.func10, Try.ntmps10
     go_wp2_with (first | ((with_reducible refine gD (N := 6) rfl ?_); (try (refine gG (by rfl) ?_; dsimp only)); refine Kd.R_lit (Kd.int .i64) _ 3 ?hg (N := 6) ?hd (xs := ([1, 1, 0, 0] : List Int)) (inner := [.int .i64 1, .int .i64 1, .int .i64 0, .int .i64 0]) (ok := fun _ => True) (okp := fun _ => True) ?hr ?hp (fun _ hk => hk) trivial (Below.refl _ _) (Nat.le_refl _) (by simp) ?_; (case hd => rfl); (case hg => rfl); (case hr => first | (go_simp; done) | (go_simp; rfl)); (case hp => exact (Reps.one (show Kd.M (Kd.int .i64) _ _ _ 1 [.int .i64 1] from rfl) (Reps.one (show Kd.M (Kd.int .i64) _ _ _ 1 [.int .i64 1] from rfl) (Reps.one (show Kd.M (Kd.int .i64) _ _ _ 0 [.int .i64 0] from rfl) (Reps.one (show Kd.M (Kd.int .i64) _ _ _ 0 [.int .i64 0] from rfl) (Reps.none _ _)))))); intro v102 w14 ho15 hb hg_ hnew_; clear hg_ hnew_; (first | rw [← Ny101.out] at ho15 | (simp only [Int.reduceToNat] at ho15; rw [← Ny101.out] at ho15)); have n0_ := Q9a.mk (Kd.rL ho15 (bZ (by repeat (first | (with_reducible first | exact HB.out | apply bA | apply bN | apply bD) | exact HB.out)))); have n1_ := Q9a.mk (bP (by repeat (first | (with_reducible first | exact HB.out | apply bA | apply bN | apply bD) | exact HB.out)) hb); clear HB; have HO103 := n0_; have HB := n1_; clear n0_ n1_; clear hb ho15; obtain ⟨Ao16, co16, eo16⟩ := Kd.R_slice HO103.out; subst eo16) | ((with_reducible refine gC (f := 11) rfl ?_); refine gL (some 8) rfl rfl Try.func11 (by kernel_rfl) rfl #[.agg #[.int .i64 2, .int .i64 4, .slice Ao16 y101.length co16]] rfl (by (try simp only [sm1, sm2, sm3]); first | done | rfl | (simp only [sm4, sm5]; rfl)) ?_; (with_reducible refine (l7made.calls 2 4 _ _ y101 (some q105) _ ?side1 ?side2 A1.out).mono ?_); (case side1 => repeat (first | exact (Kd.R_reads' HO103.out).2.2 | with_reducible first | refine Kd.cA ?_ _ | refine Kd.cN ?_ _ | refine Kd.cD ?_)); (case side2 => exact (Kd.R_reads' HO103.out).2.1); rintro e w17 ⟨b_q105, rfl, hb, hgo⟩; refine ⟨_, rfl, ?_⟩; have n0_ := Q9a.mk (Kd.R_below (by (with_reducible repeat (first | apply Kd.rA | apply Kd.rN | apply Kd.rD)); exact HO103.out) hb); have n1_ := Q9a.mk (bP (by repeat (first | (with_reducible first | exact HB.out | apply bA | apply bN | apply bD) | exact HB.out)) hb); clear HO103; clear HB; have HO103 := n0_; have HB := n1_; clear n0_ n1_; (try simp only [gfW_none, gfW_some]); have HBZ := HB; clear HB; obtain ⟨wz, rfl⟩ : ∃ z_ : World, z_ = w := ⟨_, rfl⟩; obtain ⟨w, rfl⟩ : ∃ z_ : World, z_ = w17 := ⟨_, rfl⟩; have HB := Q9a.mk (Below.refl w.heap.size w); have HG_q105 := Q9a.mk (hgo : GFok w b_q105 q105); clear hgo) | ((with_reducible refine gC (f := 35) rfl ?_); refine gL (some 13) rfl rfl Try.func35 (by kernel_rfl) rfl #[.pointer (some ⟨b_q105, 0, none⟩), .int .i64 2] rfl (by (try simp only [sm1, sm2, sm3]); first | done | rfl | (simp only [sm4, sm5]; rfl)) ?_; (with_reducible refine (tower_Subfield.calls b_q105 q105 2 t106 t107 _ ?side1 A6.out).mono ?_); (case side1 => exact GFok.belowT HG_q105.out (by repeat (first | (with_reducible first | exact HB.out | apply bA | apply bN | apply bD) | exact HB.out))); rintro e w18 ⟨v108, rfl, ho0, hb⟩; refine ⟨_, rfl, ?_⟩; have n0_ := Q9a.mk (Kd.rL ho0 (bZ (by repeat (first | (with_reducible first | exact HB.out | apply bA | apply bN | apply bD) | exact HB.out)))); have n1_ := Q9a.mk (bP (by repeat (first | (with_reducible first | exact HB.out | apply bA | apply bN | apply bD) | exact HB.out)) hb); clear HB; have HO109 := n0_; have HB := n1_; clear n0_ n1_; (try clear ho0)) | ((with_reducible refine gC (f := 36) rfl ?_); refine gL (some 18) rfl rfl Try.func36 (by kernel_rfl) rfl #[.pointer (some ⟨b_q105, 0, none⟩), .int .i64 8, .int .i64 1] rfl (by (try simp only [sm1, sm2, sm3]); first | done | rfl | (simp only [sm4, sm5]; rfl)) ?_; (with_reducible refine (tower_Trace.calls k b_q105 q105 8 1 t110 t111 _ ?side1 A7.out).mono ?_); (case side1 => exact GFok.belowT HG_q105.out (by repeat (first | (with_reducible first | exact HB.out | apply bA | apply bN | apply bD) | exact HB.out))); rintro e w19 ⟨rfl, hb⟩; refine ⟨_, rfl, ?_⟩; have n0_ := Q9a.mk (Kd.R_below (by (with_reducible repeat (first | apply Kd.rA | apply Kd.rN | apply Kd.rD)); exact HO109.out) hb); have n1_ := Q9a.mk (bP (by repeat (first | (with_reducible first | exact HB.out | apply bA | apply bN | apply bD) | exact HB.out)) hb); clear HO109; clear HB; have HO109 := n0_; have HB := n1_; clear n0_ n1_; (try clear hb); (try clear hb2); (try clear hk); (try clear hi)) | ((with_reducible refine gD (N := 25) rfl ?_); (try (refine gG (by rfl) ?_; dsimp only)); refine Kd.R_lit (Kd.int .i64) _ 3 ?hg (N := 25) ?hd (xs := ([0, 1, 6, 7] : List Int)) (inner := [.int .i64 0, .int .i64 1, .int .i64 6, .int .i64 7]) (ok := fun _ => True) (okp := fun _ => True) ?hr ?hp (fun _ hk => hk) trivial (Below.refl _ _) (Nat.le_refl _) (by simp) ?_; (case hd => rfl); (case hg => rfl); (case hr => first | (go_simp; done) | (go_simp; rfl)); (case hp => exact (Reps.one (show Kd.M (Kd.int .i64) _ _ _ 0 [.int .i64 0] from rfl) (Reps.one (show Kd.M (Kd.int .i64) _ _ _ 1 [.int .i64 1] from rfl) (Reps.one (show Kd.M (Kd.int .i64) _ _ _ 6 [.int .i64 6] from rfl) (Reps.one (show Kd.M (Kd.int .i64) _ _ _ 7 [.int .i64 7] from rfl) (Reps.none _ _)))))); intro v113 w20 ho21 hb hg_ hnew_; clear hg_ hnew_; (first | rw [← Ny112.out] at ho21 | (simp only [Int.reduceToNat] at ho21; rw [← Ny112.out] at ho21)); have n0_ := Q9a.mk (Kd.R_elder' (by (with_reducible repeat (first | apply Kd.rA | apply Kd.rN | apply Kd.rD)); exact HO109.out) (Kd.R_base ho21) hb); have n1_ := Q9a.mk (Kd.rL (Kd.R_new' ho21 (Kd.R_lt (by (with_reducible repeat (first | apply Kd.rA | apply Kd.rN | apply Kd.rD)); exact HO109.out))) (bZ (by repeat (first | (with_reducible first | exact HB.out | apply bA | apply bN | apply bD) | exact HB.out)))); have n2_ := Q9a.mk (bP (by repeat (first | (with_reducible first | exact HB.out | apply bA | apply bN | apply bD) | exact HB.out)) hb); clear HO109; clear HB; have HO109 := n0_; have HO114 := n1_; have HB := n2_; clear n0_ n1_ n2_; clear hb ho21; obtain ⟨Ao22, co22, eo22⟩ := Kd.R_slice HO109.out; subst eo22; obtain ⟨Ao23, co23, eo23⟩ := Kd.R_slice HO114.out; subst eo23) | (go_at_call 18; (with_reducible refine (l7same.calls k _ _ t106 _ _ y112 true _ ?side1 ?side2 ?side3 ?side4 A9.out).mono ?_); (case side1 => repeat (first | exact (Kd.R_reads' HO109.out).2.2 | with_reducible first | refine Kd.cA ?_ _ | refine Kd.cN ?_ _ | refine Kd.cD ?_)); (case side2 => exact (Kd.R_reads' HO109.out).2.1); (case side3 => repeat (first | exact (Kd.R_reads' HO114.out).2.2 | with_reducible first | refine Kd.cA ?_ _ | refine Kd.cN ?_ _ | refine Kd.cD ?_)); (case side4 => exact (Kd.R_reads' HO114.out).2.1); rintro e w' ⟨rfl, ⟨nd, rfl⟩⟩) | (go_at_call 37; (with_reducible refine (tower_Degree.calls k b_q105 q105 2 t116 _ ?side1 A13.out).mono ?_); (case side1 => exact GFok.belowT HG_q105.out (by repeat (first | (with_reducible first | exact HB.out | apply bA | apply bN | apply bD) | exact HB.out))); rintro e w24 ⟨rfl, hb⟩; have n0_ := Q9a.mk (Kd.R_below (by (with_reducible repeat (first | apply Kd.rA | apply Kd.rN | apply Kd.rD)); exact HO109.out) hb); have n1_ := Q9a.mk (Kd.R_below (by (with_reducible repeat (first | apply Kd.rA | apply Kd.rN | apply Kd.rD)); exact HO114.out) hb); have n2_ := Q9a.mk (bP (by repeat (first | (with_reducible first | exact HB.out | apply bA | apply bN | apply bD) | exact HB.out)) hb); clear HO109; clear HO114; clear HB; have HO109 := n0_; have HO114 := n1_; have HB := n2_; clear n0_ n1_ n2_; (try clear hb); (try clear hb2); (try clear hk); (try clear hi)))
     go_ret
     exact ⟨by first | rfl | (simp [*, eN, eS] <;> rfl), belowZ HBZ.out (by repeat (first | (with_reducible first | exact HB.out | apply bA | apply bN | apply bD) | exact HB.out))⟩
    rw [if_neg c12] at H;have c12b0 : (t110 == 1) = false := beq_eq_false_iff_ne.mpr c12;have c12b1 : (t110 != 1) = true := bne_iff_ne.mpr c12;obtain rfl := Option.some.inj H;go_enter Try.func10, Try.ntmps10
    go_wp2_with (first | ((with_reducible refine gD (N := 6) rfl ?_); (try (refine gG (by rfl) ?_; dsimp only)); refine Kd.R_lit (Kd.int .i64) _ 3 ?hg (N := 6) ?hd (xs := ([1, 1, 0, 0] : List Int)) (inner := [.int .i64 1, .int .i64 1, .int .i64 0, .int .i64 0]) (ok := fun _ => True) (okp := fun _ => True) ?hr ?hp (fun _ hk => hk) trivial (Below.refl _ _) (Nat.le_refl _) (by simp) ?_; (case hd => rfl); (case hg => rfl); (case hr => first | (go_simp; done) | (go_simp; rfl)); (case hp => exact (Reps.one (show Kd.M (Kd.int .i64) _ _ _ 1 [.int .i64 1] from rfl) (Reps.one (show Kd.M (Kd.int .i64) _ _ _ 1 [.int .i64 1] from rfl) (Reps.one (show Kd.M (Kd.int .i64) _ _ _ 0 [.int .i64 0] from rfl) (Reps.one (show Kd.M (Kd.int .i64) _ _ _ 0 [.int .i64 0] from rfl) (Reps.none _ _)))))); intro v102 w25 ho26 hb hg_ hnew_; clear hg_ hnew_; (first | rw [← Ny101.out] at ho26 | (simp only [Int.reduceToNat] at ho26; rw [← Ny101.out] at ho26)); have n0_ := Q9a.mk (Kd.rL ho26 (bZ (by repeat (first | (with_reducible first | exact HB.out | apply bA | apply bN | apply bD) | exact HB.out)))); have n1_ := Q9a.mk (bP (by repeat (first | (with_reducible first | exact HB.out | apply bA | apply bN | apply bD) | exact HB.out)) hb); clear HB; have HO103 := n0_; have HB := n1_; clear n0_ n1_; clear hb ho26; obtain ⟨Ao27, co27, eo27⟩ := Kd.R_slice HO103.out; subst eo27) | ((with_reducible refine gC (f := 11) rfl ?_); refine gL (some 8) rfl rfl Try.func11 (by kernel_rfl) rfl #[.agg #[.int .i64 2, .int .i64 4, .slice Ao27 y101.length co27]] rfl (by (try simp only [sm1, sm2, sm3]); first | done | rfl | (simp only [sm4, sm5]; rfl)) ?_; (with_reducible refine (l7made.calls 2 4 _ _ y101 (some q105) _ ?side1 ?side2 A1.out).mono ?_); (case side1 => repeat (first | exact (Kd.R_reads' HO103.out).2.2 | with_reducible first | refine Kd.cA ?_ _ | refine Kd.cN ?_ _ | refine Kd.cD ?_)); (case side2 => exact (Kd.R_reads' HO103.out).2.1); rintro e w28 ⟨b_q105, rfl, hb, hgo⟩; refine ⟨_, rfl, ?_⟩; have n0_ := Q9a.mk (Kd.R_below (by (with_reducible repeat (first | apply Kd.rA | apply Kd.rN | apply Kd.rD)); exact HO103.out) hb); have n1_ := Q9a.mk (bP (by repeat (first | (with_reducible first | exact HB.out | apply bA | apply bN | apply bD) | exact HB.out)) hb); clear HO103; clear HB; have HO103 := n0_; have HB := n1_; clear n0_ n1_; (try simp only [gfW_none, gfW_some]); have HBZ := HB; clear HB; obtain ⟨wz, rfl⟩ : ∃ z_ : World, z_ = w := ⟨_, rfl⟩; obtain ⟨w, rfl⟩ : ∃ z_ : World, z_ = w28 := ⟨_, rfl⟩; have HB := Q9a.mk (Below.refl w.heap.size w); have HG_q105 := Q9a.mk (hgo : GFok w b_q105 q105); clear hgo) | ((with_reducible refine gC (f := 35) rfl ?_); refine gL (some 13) rfl rfl Try.func35 (by kernel_rfl) rfl #[.pointer (some ⟨b_q105, 0, none⟩), .int .i64 2] rfl (by (try simp only [sm1, sm2, sm3]); first | done | rfl | (simp only [sm4, sm5]; rfl)) ?_; (with_reducible refine (tower_Subfield.calls b_q105 q105 2 t106 t107 _ ?side1 A6.out).mono ?_); (case side1 => exact GFok.belowT HG_q105.out (by repeat (first | (with_reducible first | exact HB.out | apply bA | apply bN | apply bD) | exact HB.out))); rintro e w29 ⟨v108, rfl, ho0, hb⟩; refine ⟨_, rfl, ?_⟩; have n0_ := Q9a.mk (Kd.rL ho0 (bZ (by repeat (first | (with_reducible first | exact HB.out | apply bA | apply bN | apply bD) | exact HB.out)))); have n1_ := Q9a.mk (bP (by repeat (first | (with_reducible first | exact HB.out | apply bA | apply bN | apply bD) | exact HB.out)) hb); clear HB; have HO109 := n0_; have HB := n1_; clear n0_ n1_; (try clear ho0)) | ((with_reducible refine gC (f := 36) rfl ?_); refine gL (some 18) rfl rfl Try.func36 (by kernel_rfl) rfl #[.pointer (some ⟨b_q105, 0, none⟩), .int .i64 8, .int .i64 1] rfl (by (try simp only [sm1, sm2, sm3]); first | done | rfl | (simp only [sm4, sm5]; rfl)) ?_; (with_reducible refine (tower_Trace.calls k b_q105 q105 8 1 t110 t111 _ ?side1 A7.out).mono ?_); (case side1 => exact GFok.belowT HG_q105.out (by repeat (first | (with_reducible first | exact HB.out | apply bA | apply bN | apply bD) | exact HB.out))); rintro e w30 ⟨rfl, hb⟩; refine ⟨_, rfl, ?_⟩; have n0_ := Q9a.mk (Kd.R_below (by (with_reducible repeat (first | apply Kd.rA | apply Kd.rN | apply Kd.rD)); exact HO109.out) hb); have n1_ := Q9a.mk (bP (by repeat (first | (with_reducible first | exact HB.out | apply bA | apply bN | apply bD) | exact HB.out)) hb); clear HO109; clear HB; have HO109 := n0_; have HB := n1_; clear n0_ n1_; (try clear hb); (try clear hb2); (try clear hk); (try clear hi)) | ((with_reducible refine gD (N := 25) rfl ?_); (try (refine gG (by rfl) ?_; dsimp only)); refine Kd.R_lit (Kd.int .i64) _ 3 ?hg (N := 25) ?hd (xs := ([0, 1, 6, 7] : List Int)) (inner := [.int .i64 0, .int .i64 1, .int .i64 6, .int .i64 7]) (ok := fun _ => True) (okp := fun _ => True) ?hr ?hp (fun _ hk => hk) trivial (Below.refl _ _) (Nat.le_refl _) (by simp) ?_; (case hd => rfl); (case hg => rfl); (case hr => first | (go_simp; done) | (go_simp; rfl)); (case hp => exact (Reps.one (show Kd.M (Kd.int .i64) _ _ _ 0 [.int .i64 0] from rfl) (Reps.one (show Kd.M (Kd.int .i64) _ _ _ 1 [.int .i64 1] from rfl) (Reps.one (show Kd.M (Kd.int .i64) _ _ _ 6 [.int .i64 6] from rfl) (Reps.one (show Kd.M (Kd.int .i64) _ _ _ 7 [.int .i64 7] from rfl) (Reps.none _ _)))))); intro v113 w31 ho32 hb hg_ hnew_; clear hg_ hnew_; (first | rw [← Ny112.out] at ho32 | (simp only [Int.reduceToNat] at ho32; rw [← Ny112.out] at ho32)); have n0_ := Q9a.mk (Kd.R_elder' (by (with_reducible repeat (first | apply Kd.rA | apply Kd.rN | apply Kd.rD)); exact HO109.out) (Kd.R_base ho32) hb); have n1_ := Q9a.mk (Kd.rL (Kd.R_new' ho32 (Kd.R_lt (by (with_reducible repeat (first | apply Kd.rA | apply Kd.rN | apply Kd.rD)); exact HO109.out))) (bZ (by repeat (first | (with_reducible first | exact HB.out | apply bA | apply bN | apply bD) | exact HB.out)))); have n2_ := Q9a.mk (bP (by repeat (first | (with_reducible first | exact HB.out | apply bA | apply bN | apply bD) | exact HB.out)) hb); clear HO109; clear HB; have HO109 := n0_; have HO114 := n1_; have HB := n2_; clear n0_ n1_ n2_; clear hb ho32; obtain ⟨Ao33, co33, eo33⟩ := Kd.R_slice HO109.out; subst eo33; obtain ⟨Ao34, co34, eo34⟩ := Kd.R_slice HO114.out; subst eo34) | (go_at_call 18; (with_reducible refine (l7same.calls k _ _ t106 _ _ y112 true _ ?side1 ?side2 ?side3 ?side4 A9.out).mono ?_); (case side1 => repeat (first | exact (Kd.R_reads' HO109.out).2.2 | with_reducible first | refine Kd.cA ?_ _ | refine Kd.cN ?_ _ | refine Kd.cD ?_)); (case side2 => exact (Kd.R_reads' HO109.out).2.1); (case side3 => repeat (first | exact (Kd.R_reads' HO114.out).2.2 | with_reducible first | refine Kd.cA ?_ _ | refine Kd.cN ?_ _ | refine Kd.cD ?_)); (case side4 => exact (Kd.R_reads' HO114.out).2.1); rintro e w' ⟨rfl, ⟨nd, rfl⟩⟩))
    go_ret
    exact ⟨by first | rfl | (simp [*, eN, eS] <;> rfl), belowZ HBZ.out (by repeat (first | (with_reducible first | exact HB.out | apply bA | apply bN | apply bD) | exact HB.out))⟩
   rw [if_neg c11] at H;have c11b0 : (t111 == 0) = false := beq_eq_false_iff_ne.mpr c11;have c11b1 : (t111 != 0) = true := bne_iff_ne.mpr c11;obtain rfl := Option.some.inj H;go_enter Try.func10, Try.ntmps10
   go_wp2_with (first | ((with_reducible refine gD (N := 6) rfl ?_); (try (refine gG (by rfl) ?_; dsimp only)); refine Kd.R_lit (Kd.int .i64) _ 3 ?hg (N := 6) ?hd (xs := ([1, 1, 0, 0] : List Int)) (inner := [.int .i64 1, .int .i64 1, .int .i64 0, .int .i64 0]) (ok := fun _ => True) (okp := fun _ => True) ?hr ?hp (fun _ hk => hk) trivial (Below.refl _ _) (Nat.le_refl _) (by simp) ?_; (case hd => rfl); (case hg => rfl); (case hr => first | (go_simp; done) | (go_simp; rfl)); (case hp => exact (Reps.one (show Kd.M (Kd.int .i64) _ _ _ 1 [.int .i64 1] from rfl) (Reps.one (show Kd.M (Kd.int .i64) _ _ _ 1 [.int .i64 1] from rfl) (Reps.one (show Kd.M (Kd.int .i64) _ _ _ 0 [.int .i64 0] from rfl) (Reps.one (show Kd.M (Kd.int .i64) _ _ _ 0 [.int .i64 0] from rfl) (Reps.none _ _)))))); intro v102 w35 ho36 hb hg_ hnew_; clear hg_ hnew_; (first | rw [← Ny101.out] at ho36 | (simp only [Int.reduceToNat] at ho36; rw [← Ny101.out] at ho36)); have n0_ := Q9a.mk (Kd.rL ho36 (bZ (by repeat (first | (with_reducible first | exact HB.out | apply bA | apply bN | apply bD) | exact HB.out)))); have n1_ := Q9a.mk (bP (by repeat (first | (with_reducible first | exact HB.out | apply bA | apply bN | apply bD) | exact HB.out)) hb); clear HB; have HO103 := n0_; have HB := n1_; clear n0_ n1_; clear hb ho36; obtain ⟨Ao37, co37, eo37⟩ := Kd.R_slice HO103.out; subst eo37) | ((with_reducible refine gC (f := 11) rfl ?_); refine gL (some 8) rfl rfl Try.func11 (by kernel_rfl) rfl #[.agg #[.int .i64 2, .int .i64 4, .slice Ao37 y101.length co37]] rfl (by (try simp only [sm1, sm2, sm3]); first | done | rfl | (simp only [sm4, sm5]; rfl)) ?_; (with_reducible refine (l7made.calls 2 4 _ _ y101 (some q105) _ ?side1 ?side2 A1.out).mono ?_); (case side1 => repeat (first | exact (Kd.R_reads' HO103.out).2.2 | with_reducible first | refine Kd.cA ?_ _ | refine Kd.cN ?_ _ | refine Kd.cD ?_)); (case side2 => exact (Kd.R_reads' HO103.out).2.1); rintro e w38 ⟨b_q105, rfl, hb, hgo⟩; refine ⟨_, rfl, ?_⟩; have n0_ := Q9a.mk (Kd.R_below (by (with_reducible repeat (first | apply Kd.rA | apply Kd.rN | apply Kd.rD)); exact HO103.out) hb); have n1_ := Q9a.mk (bP (by repeat (first | (with_reducible first | exact HB.out | apply bA | apply bN | apply bD) | exact HB.out)) hb); clear HO103; clear HB; have HO103 := n0_; have HB := n1_; clear n0_ n1_; (try simp only [gfW_none, gfW_some]); have HBZ := HB; clear HB; obtain ⟨wz, rfl⟩ : ∃ z_ : World, z_ = w := ⟨_, rfl⟩; obtain ⟨w, rfl⟩ : ∃ z_ : World, z_ = w38 := ⟨_, rfl⟩; have HB := Q9a.mk (Below.refl w.heap.size w); have HG_q105 := Q9a.mk (hgo : GFok w b_q105 q105); clear hgo) | ((with_reducible refine gC (f := 35) rfl ?_); refine gL (some 13) rfl rfl Try.func35 (by kernel_rfl) rfl #[.pointer (some ⟨b_q105, 0, none⟩), .int .i64 2] rfl (by (try simp only [sm1, sm2, sm3]); first | done | rfl | (simp only [sm4, sm5]; rfl)) ?_; (with_reducible refine (tower_Subfield.calls b_q105 q105 2 t106 t107 _ ?side1 A6.out).mono ?_); (case side1 => exact GFok.belowT HG_q105.out (by repeat (first | (with_reducible first | exact HB.out | apply bA | apply bN | apply bD) | exact HB.out))); rintro e w39 ⟨v108, rfl, ho0, hb⟩; refine ⟨_, rfl, ?_⟩; have n0_ := Q9a.mk (Kd.rL ho0 (bZ (by repeat (first | (with_reducible first | exact HB.out | apply bA | apply bN | apply bD) | exact HB.out)))); have n1_ := Q9a.mk (bP (by repeat (first | (with_reducible first | exact HB.out | apply bA | apply bN | apply bD) | exact HB.out)) hb); clear HB; have HO109 := n0_; have HB := n1_; clear n0_ n1_; (try clear ho0)) | ((with_reducible refine gC (f := 36) rfl ?_); refine gL (some 18) rfl rfl Try.func36 (by kernel_rfl) rfl #[.pointer (some ⟨b_q105, 0, none⟩), .int .i64 8, .int .i64 1] rfl (by (try simp only [sm1, sm2, sm3]); first | done | rfl | (simp only [sm4, sm5]; rfl)) ?_; (with_reducible refine (tower_Trace.calls k b_q105 q105 8 1 t110 t111 _ ?side1 A7.out).mono ?_); (case side1 => exact GFok.belowT HG_q105.out (by repeat (first | (with_reducible first | exact HB.out | apply bA | apply bN | apply bD) | exact HB.out))); rintro e w40 ⟨rfl, hb⟩; refine ⟨_, rfl, ?_⟩; have n0_ := Q9a.mk (Kd.R_below (by (with_reducible repeat (first | apply Kd.rA | apply Kd.rN | apply Kd.rD)); exact HO109.out) hb); have n1_ := Q9a.mk (bP (by repeat (first | (with_reducible first | exact HB.out | apply bA | apply bN | apply bD) | exact HB.out)) hb); clear HO109; clear HB; have HO109 := n0_; have HB := n1_; clear n0_ n1_; (try clear hb); (try clear hb2); (try clear hk); (try clear hi)) | ((with_reducible refine gD (N := 25) rfl ?_); (try (refine gG (by rfl) ?_; dsimp only)); refine Kd.R_lit (Kd.int .i64) _ 3 ?hg (N := 25) ?hd (xs := ([0, 1, 6, 7] : List Int)) (inner := [.int .i64 0, .int .i64 1, .int .i64 6, .int .i64 7]) (ok := fun _ => True) (okp := fun _ => True) ?hr ?hp (fun _ hk => hk) trivial (Below.refl _ _) (Nat.le_refl _) (by simp) ?_; (case hd => rfl); (case hg => rfl); (case hr => first | (go_simp; done) | (go_simp; rfl)); (case hp => exact (Reps.one (show Kd.M (Kd.int .i64) _ _ _ 0 [.int .i64 0] from rfl) (Reps.one (show Kd.M (Kd.int .i64) _ _ _ 1 [.int .i64 1] from rfl) (Reps.one (show Kd.M (Kd.int .i64) _ _ _ 6 [.int .i64 6] from rfl) (Reps.one (show Kd.M (Kd.int .i64) _ _ _ 7 [.int .i64 7] from rfl) (Reps.none _ _)))))); intro v113 w41 ho42 hb hg_ hnew_; clear hg_ hnew_; (first | rw [← Ny112.out] at ho42 | (simp only [Int.reduceToNat] at ho42; rw [← Ny112.out] at ho42)); have n0_ := Q9a.mk (Kd.R_elder' (by (with_reducible repeat (first | apply Kd.rA | apply Kd.rN | apply Kd.rD)); exact HO109.out) (Kd.R_base ho42) hb); have n1_ := Q9a.mk (Kd.rL (Kd.R_new' ho42 (Kd.R_lt (by (with_reducible repeat (first | apply Kd.rA | apply Kd.rN | apply Kd.rD)); exact HO109.out))) (bZ (by repeat (first | (with_reducible first | exact HB.out | apply bA | apply bN | apply bD) | exact HB.out)))); have n2_ := Q9a.mk (bP (by repeat (first | (with_reducible first | exact HB.out | apply bA | apply bN | apply bD) | exact HB.out)) hb); clear HO109; clear HB; have HO109 := n0_; have HO114 := n1_; have HB := n2_; clear n0_ n1_ n2_; clear hb ho42; obtain ⟨Ao43, co43, eo43⟩ := Kd.R_slice HO109.out; subst eo43; obtain ⟨Ao44, co44, eo44⟩ := Kd.R_slice HO114.out; subst eo44) | (go_at_call 18; (with_reducible refine (l7same.calls k _ _ t106 _ _ y112 true _ ?side1 ?side2 ?side3 ?side4 A9.out).mono ?_); (case side1 => repeat (first | exact (Kd.R_reads' HO109.out).2.2 | with_reducible first | refine Kd.cA ?_ _ | refine Kd.cN ?_ _ | refine Kd.cD ?_)); (case side2 => exact (Kd.R_reads' HO109.out).2.1); (case side3 => repeat (first | exact (Kd.R_reads' HO114.out).2.2 | with_reducible first | refine Kd.cA ?_ _ | refine Kd.cN ?_ _ | refine Kd.cD ?_)); (case side4 => exact (Kd.R_reads' HO114.out).2.1); rintro e w' ⟨rfl, ⟨nd, rfl⟩⟩))
   go_ret
   exact ⟨by first | rfl | (simp [*, eN, eS] <;> rfl), belowZ HBZ.out (by repeat (first | (with_reducible first | exact HB.out | apply bA | apply bN | apply bD) | exact HB.out))⟩
  replace c10 := Bool.eq_false_iff.mpr c10;subst c10;have H1 : (some false) = some r := by rw [if_neg (show ¬ (false = true) by decide)] at H; exact H
  clear H;have H := H1;clear H1;obtain rfl := Option.some.inj H;go_enter Try.func10, Try.ntmps10
  go_wp2_with (first | ((with_reducible refine gD (N := 6) rfl ?_); (try (refine gG (by rfl) ?_; dsimp only)); refine Kd.R_lit (Kd.int .i64) _ 3 ?hg (N := 6) ?hd (xs := ([1, 1, 0, 0] : List Int)) (inner := [.int .i64 1, .int .i64 1, .int .i64 0, .int .i64 0]) (ok := fun _ => True) (okp := fun _ => True) ?hr ?hp (fun _ hk => hk) trivial (Below.refl _ _) (Nat.le_refl _) (by simp) ?_; (case hd => rfl); (case hg => rfl); (case hr => first | (go_simp; done) | (go_simp; rfl)); (case hp => exact (Reps.one (show Kd.M (Kd.int .i64) _ _ _ 1 [.int .i64 1] from rfl) (Reps.one (show Kd.M (Kd.int .i64) _ _ _ 1 [.int .i64 1] from rfl) (Reps.one (show Kd.M (Kd.int .i64) _ _ _ 0 [.int .i64 0] from rfl) (Reps.one (show Kd.M (Kd.int .i64) _ _ _ 0 [.int .i64 0] from rfl) (Reps.none _ _)))))); intro v102 w45 ho46 hb hg_ hnew_; clear hg_ hnew_; (first | rw [← Ny101.out] at ho46 | (simp only [Int.reduceToNat] at ho46; rw [← Ny101.out] at ho46)); have n0_ := Q9a.mk (Kd.rL ho46 (bZ (by repeat (first | (with_reducible first | exact HB.out | apply bA | apply bN | apply bD) | exact HB.out)))); have n1_ := Q9a.mk (bP (by repeat (first | (with_reducible first | exact HB.out | apply bA | apply bN | apply bD) | exact HB.out)) hb); clear HB; have HO103 := n0_; have HB := n1_; clear n0_ n1_; clear hb ho46; obtain ⟨Ao47, co47, eo47⟩ := Kd.R_slice HO103.out; subst eo47) | ((with_reducible refine gC (f := 11) rfl ?_); refine gL (some 8) rfl rfl Try.func11 (by kernel_rfl) rfl #[.agg #[.int .i64 2, .int .i64 4, .slice Ao47 y101.length co47]] rfl (by (try simp only [sm1, sm2, sm3]); first | done | rfl | (simp only [sm4, sm5]; rfl)) ?_; (with_reducible refine (l7made.calls 2 4 _ _ y101 (some q105) _ ?side1 ?side2 A1.out).mono ?_); (case side1 => repeat (first | exact (Kd.R_reads' HO103.out).2.2 | with_reducible first | refine Kd.cA ?_ _ | refine Kd.cN ?_ _ | refine Kd.cD ?_)); (case side2 => exact (Kd.R_reads' HO103.out).2.1); rintro e w48 ⟨b_q105, rfl, hb, hgo⟩; refine ⟨_, rfl, ?_⟩; have n0_ := Q9a.mk (Kd.R_below (by (with_reducible repeat (first | apply Kd.rA | apply Kd.rN | apply Kd.rD)); exact HO103.out) hb); have n1_ := Q9a.mk (bP (by repeat (first | (with_reducible first | exact HB.out | apply bA | apply bN | apply bD) | exact HB.out)) hb); clear HO103; clear HB; have HO103 := n0_; have HB := n1_; clear n0_ n1_; (try simp only [gfW_none, gfW_some]); have HBZ := HB; clear HB; obtain ⟨wz, rfl⟩ : ∃ z_ : World, z_ = w := ⟨_, rfl⟩; obtain ⟨w, rfl⟩ : ∃ z_ : World, z_ = w48 := ⟨_, rfl⟩; have HB := Q9a.mk (Below.refl w.heap.size w); have HG_q105 := Q9a.mk (hgo : GFok w b_q105 q105); clear hgo) | ((with_reducible refine gC (f := 35) rfl ?_); refine gL (some 13) rfl rfl Try.func35 (by kernel_rfl) rfl #[.pointer (some ⟨b_q105, 0, none⟩), .int .i64 2] rfl (by (try simp only [sm1, sm2, sm3]); first | done | rfl | (simp only [sm4, sm5]; rfl)) ?_; (with_reducible refine (tower_Subfield.calls b_q105 q105 2 t106 t107 _ ?side1 A6.out).mono ?_); (case side1 => exact GFok.belowT HG_q105.out (by repeat (first | (with_reducible first | exact HB.out | apply bA | apply bN | apply bD) | exact HB.out))); rintro e w49 ⟨v108, rfl, ho0, hb⟩; refine ⟨_, rfl, ?_⟩; have n0_ := Q9a.mk (Kd.rL ho0 (bZ (by repeat (first | (with_reducible first | exact HB.out | apply bA | apply bN | apply bD) | exact HB.out)))); have n1_ := Q9a.mk (bP (by repeat (first | (with_reducible first | exact HB.out | apply bA | apply bN | apply bD) | exact HB.out)) hb); clear HB; have HO109 := n0_; have HB := n1_; clear n0_ n1_; (try clear ho0)) | ((with_reducible refine gC (f := 36) rfl ?_); refine gL (some 18) rfl rfl Try.func36 (by kernel_rfl) rfl #[.pointer (some ⟨b_q105, 0, none⟩), .int .i64 8, .int .i64 1] rfl (by (try simp only [sm1, sm2, sm3]); first | done | rfl | (simp only [sm4, sm5]; rfl)) ?_; (with_reducible refine (tower_Trace.calls k b_q105 q105 8 1 t110 t111 _ ?side1 A7.out).mono ?_); (case side1 => exact GFok.belowT HG_q105.out (by repeat (first | (with_reducible first | exact HB.out | apply bA | apply bN | apply bD) | exact HB.out))); rintro e w50 ⟨rfl, hb⟩; refine ⟨_, rfl, ?_⟩; have n0_ := Q9a.mk (Kd.R_below (by (with_reducible repeat (first | apply Kd.rA | apply Kd.rN | apply Kd.rD)); exact HO109.out) hb); have n1_ := Q9a.mk (bP (by repeat (first | (with_reducible first | exact HB.out | apply bA | apply bN | apply bD) | exact HB.out)) hb); clear HO109; clear HB; have HO109 := n0_; have HB := n1_; clear n0_ n1_; (try clear hb); (try clear hb2); (try clear hk); (try clear hi)) | ((with_reducible refine gD (N := 25) rfl ?_); (try (refine gG (by rfl) ?_; dsimp only)); refine Kd.R_lit (Kd.int .i64) _ 3 ?hg (N := 25) ?hd (xs := ([0, 1, 6, 7] : List Int)) (inner := [.int .i64 0, .int .i64 1, .int .i64 6, .int .i64 7]) (ok := fun _ => True) (okp := fun _ => True) ?hr ?hp (fun _ hk => hk) trivial (Below.refl _ _) (Nat.le_refl _) (by simp) ?_; (case hd => rfl); (case hg => rfl); (case hr => first | (go_simp; done) | (go_simp; rfl)); (case hp => exact (Reps.one (show Kd.M (Kd.int .i64) _ _ _ 0 [.int .i64 0] from rfl) (Reps.one (show Kd.M (Kd.int .i64) _ _ _ 1 [.int .i64 1] from rfl) (Reps.one (show Kd.M (Kd.int .i64) _ _ _ 6 [.int .i64 6] from rfl) (Reps.one (show Kd.M (Kd.int .i64) _ _ _ 7 [.int .i64 7] from rfl) (Reps.none _ _)))))); intro v113 w51 ho52 hb hg_ hnew_; clear hg_ hnew_; (first | rw [← Ny112.out] at ho52 | (simp only [Int.reduceToNat] at ho52; rw [← Ny112.out] at ho52)); have n0_ := Q9a.mk (Kd.R_elder' (by (with_reducible repeat (first | apply Kd.rA | apply Kd.rN | apply Kd.rD)); exact HO109.out) (Kd.R_base ho52) hb); have n1_ := Q9a.mk (Kd.rL (Kd.R_new' ho52 (Kd.R_lt (by (with_reducible repeat (first | apply Kd.rA | apply Kd.rN | apply Kd.rD)); exact HO109.out))) (bZ (by repeat (first | (with_reducible first | exact HB.out | apply bA | apply bN | apply bD) | exact HB.out)))); have n2_ := Q9a.mk (bP (by repeat (first | (with_reducible first | exact HB.out | apply bA | apply bN | apply bD) | exact HB.out)) hb); clear HO109; clear HB; have HO109 := n0_; have HO114 := n1_; have HB := n2_; clear n0_ n1_ n2_; clear hb ho52; obtain ⟨Ao53, co53, eo53⟩ := Kd.R_slice HO109.out; subst eo53; obtain ⟨Ao54, co54, eo54⟩ := Kd.R_slice HO114.out; subst eo54) | (go_at_call 18; (with_reducible refine (l7same.calls k _ _ t106 _ _ y112 false _ ?side1 ?side2 ?side3 ?side4 A9.out).mono ?_); (case side1 => repeat (first | exact (Kd.R_reads' HO109.out).2.2 | with_reducible first | refine Kd.cA ?_ _ | refine Kd.cN ?_ _ | refine Kd.cD ?_)); (case side2 => exact (Kd.R_reads' HO109.out).2.1); (case side3 => repeat (first | exact (Kd.R_reads' HO114.out).2.2 | with_reducible first | refine Kd.cA ?_ _ | refine Kd.cN ?_ _ | refine Kd.cD ?_)); (case side4 => exact (Kd.R_reads' HO114.out).2.1); rintro e w' ⟨rfl, ⟨nd, rfl⟩⟩))
  go_ret
  exact ⟨by first | rfl | (simp [*, eN, eS] <;> rfl), belowZ HBZ.out (by repeat (first | (with_reducible first | exact HB.out | apply bA | apply bN | apply bD) | exact HB.out))⟩
 rw [if_neg c8] at H;have c8b0 : (t107 == 0) = false := beq_eq_false_iff_ne.mpr c8;have c8b1 : (t107 != 0) = true := bne_iff_ne.mpr c8;obtain rfl := Option.some.inj H;go_enter Try.func10, Try.ntmps10
 go_wp2_with (first | ((with_reducible refine gD (N := 6) rfl ?_); (try (refine gG (by rfl) ?_; dsimp only)); refine Kd.R_lit (Kd.int .i64) _ 3 ?hg (N := 6) ?hd (xs := ([1, 1, 0, 0] : List Int)) (inner := [.int .i64 1, .int .i64 1, .int .i64 0, .int .i64 0]) (ok := fun _ => True) (okp := fun _ => True) ?hr ?hp (fun _ hk => hk) trivial (Below.refl _ _) (Nat.le_refl _) (by simp) ?_; (case hd => rfl); (case hg => rfl); (case hr => first | (go_simp; done) | (go_simp; rfl)); (case hp => exact (Reps.one (show Kd.M (Kd.int .i64) _ _ _ 1 [.int .i64 1] from rfl) (Reps.one (show Kd.M (Kd.int .i64) _ _ _ 1 [.int .i64 1] from rfl) (Reps.one (show Kd.M (Kd.int .i64) _ _ _ 0 [.int .i64 0] from rfl) (Reps.one (show Kd.M (Kd.int .i64) _ _ _ 0 [.int .i64 0] from rfl) (Reps.none _ _)))))); intro v102 w55 ho56 hb hg_ hnew_; clear hg_ hnew_; (first | rw [← Ny101.out] at ho56 | (simp only [Int.reduceToNat] at ho56; rw [← Ny101.out] at ho56)); have n0_ := Q9a.mk (Kd.rL ho56 (bZ (by repeat (first | (with_reducible first | exact HB.out | apply bA | apply bN | apply bD) | exact HB.out)))); have n1_ := Q9a.mk (bP (by repeat (first | (with_reducible first | exact HB.out | apply bA | apply bN | apply bD) | exact HB.out)) hb); clear HB; have HO103 := n0_; have HB := n1_; clear n0_ n1_; clear hb ho56; obtain ⟨Ao57, co57, eo57⟩ := Kd.R_slice HO103.out; subst eo57) | ((with_reducible refine gC (f := 11) rfl ?_); refine gL (some 8) rfl rfl Try.func11 (by kernel_rfl) rfl #[.agg #[.int .i64 2, .int .i64 4, .slice Ao57 y101.length co57]] rfl (by (try simp only [sm1, sm2, sm3]); first | done | rfl | (simp only [sm4, sm5]; rfl)) ?_; (with_reducible refine (l7made.calls 2 4 _ _ y101 (some q105) _ ?side1 ?side2 A1.out).mono ?_); (case side1 => repeat (first | exact (Kd.R_reads' HO103.out).2.2 | with_reducible first | refine Kd.cA ?_ _ | refine Kd.cN ?_ _ | refine Kd.cD ?_)); (case side2 => exact (Kd.R_reads' HO103.out).2.1); rintro e w58 ⟨b_q105, rfl, hb, hgo⟩; refine ⟨_, rfl, ?_⟩; have n0_ := Q9a.mk (Kd.R_below (by (with_reducible repeat (first | apply Kd.rA | apply Kd.rN | apply Kd.rD)); exact HO103.out) hb); have n1_ := Q9a.mk (bP (by repeat (first | (with_reducible first | exact HB.out | apply bA | apply bN | apply bD) | exact HB.out)) hb); clear HO103; clear HB; have HO103 := n0_; have HB := n1_; clear n0_ n1_; (try simp only [gfW_none, gfW_some]); have HBZ := HB; clear HB; obtain ⟨wz, rfl⟩ : ∃ z_ : World, z_ = w := ⟨_, rfl⟩; obtain ⟨w, rfl⟩ : ∃ z_ : World, z_ = w58 := ⟨_, rfl⟩; have HB := Q9a.mk (Below.refl w.heap.size w); have HG_q105 := Q9a.mk (hgo : GFok w b_q105 q105); clear hgo) | ((with_reducible refine gC (f := 35) rfl ?_); refine gL (some 13) rfl rfl Try.func35 (by kernel_rfl) rfl #[.pointer (some ⟨b_q105, 0, none⟩), .int .i64 2] rfl (by (try simp only [sm1, sm2, sm3]); first | done | rfl | (simp only [sm4, sm5]; rfl)) ?_; (with_reducible refine (tower_Subfield.calls b_q105 q105 2 t106 t107 _ ?side1 A6.out).mono ?_); (case side1 => exact GFok.belowT HG_q105.out (by repeat (first | (with_reducible first | exact HB.out | apply bA | apply bN | apply bD) | exact HB.out))); rintro e w59 ⟨v108, rfl, ho0, hb⟩; refine ⟨_, rfl, ?_⟩; have n0_ := Q9a.mk (Kd.rL ho0 (bZ (by repeat (first | (with_reducible first | exact HB.out | apply bA | apply bN | apply bD) | exact HB.out)))); have n1_ := Q9a.mk (bP (by repeat (first | (with_reducible first | exact HB.out | apply bA | apply bN | apply bD) | exact HB.out)) hb); clear HB; have HO109 := n0_; have HB := n1_; clear n0_ n1_; (try clear ho0)) | ((with_reducible refine gC (f := 36) rfl ?_); refine gL (some 18) rfl rfl Try.func36 (by kernel_rfl) rfl #[.pointer (some ⟨b_q105, 0, none⟩), .int .i64 8, .int .i64 1] rfl (by (try simp only [sm1, sm2, sm3]); first | done | rfl | (simp only [sm4, sm5]; rfl)) ?_; (with_reducible refine (tower_Trace.calls k b_q105 q105 8 1 t110 t111 _ ?side1 A7.out).mono ?_); (case side1 => exact GFok.belowT HG_q105.out (by repeat (first | (with_reducible first | exact HB.out | apply bA | apply bN | apply bD) | exact HB.out))); rintro e w60 ⟨rfl, hb⟩; refine ⟨_, rfl, ?_⟩; have n0_ := Q9a.mk (Kd.R_below (by (with_reducible repeat (first | apply Kd.rA | apply Kd.rN | apply Kd.rD)); exact HO109.out) hb); have n1_ := Q9a.mk (bP (by repeat (first | (with_reducible first | exact HB.out | apply bA | apply bN | apply bD) | exact HB.out)) hb); clear HO109; clear HB; have HO109 := n0_; have HB := n1_; clear n0_ n1_; (try clear hb); (try clear hb2); (try clear hk); (try clear hi)))
 go_ret
 exact ⟨by first | rfl | (simp [*, eN, eS] <;> rfl), belowZ HBZ.out (by repeat (first | (with_reducible first | exact HB.out | apply bA | apply bN | apply bD) | exact HB.out))⟩
def tower_IsBasis.f (a0 : GFv) (l1 : List Int) (a2 : Int) : Option (Bool) := (tower_basis.f a0 l1 a2).bind fun t121 => (some (t121 == 0))
theorem tower_IsBasis.calls (b_a0 : Nat) (a0 : GFv) (A1 : Option Addr) (c1 : Nat) (l1 : List Int) (a2 : Int) (r : Bool) (w : World) (hg0 : GFok w b_a0 a0) (hr1 : Kd.C (Kd.int .i64) w A1 l1.length l1) (hc1 : l1.length ≤ c1) (h : tower_IsBasis.f a0 l1 a2 = some r) :
  Calls Try.prog 32 #[.pointer (some ⟨b_a0, 0, none⟩), .slice A1 l1.length c1, .int .i64 a2] w fun e w' => e = .returned (.bool r) ∧ Below w.heap.size w w' := by
 have HG_a0 := Q9a.mk hg0;clear hg0;have HR1 := Q9a.mk hr1;have HC1 := Q9a.mk hc1;clear hr1 hc1;have HB := Q9a.mk (Below.refl w.heap.size w);have H : ((tower_basis.f a0 l1 a2).bind fun t121 => (some (t121 == 0))) = some r := h;clear h;replace H := Option.bind_eq_some_iff.mp H;obtain ⟨t121, A40, H⟩ := H;replace H : (some (t121 == 0)) = some r := H;have A4 := Q9a.mk A40;clear A40;obtain rfl := Option.some.inj H;go_enter Try.func32, Try.ntmps32
 go_wp2_with (first | ((with_reducible refine gC (f := 39) rfl ?_); refine gL (some 10) rfl rfl Try.func39 (by kernel_rfl) rfl #[.pointer (some ⟨b_a0, 0, none⟩), .slice A1 l1.length c1, .int .i64 a2] rfl (by (try simp only [sm1, sm2, sm3]); first | done | rfl | (simp only [sm4, sm5]; rfl)) ?_; (with_reducible refine (tower_basis.calls b_a0 a0 _ _ l1 a2 t121 _ ?side1 ?side2 ?side3 A4.out).mono ?_); (case side1 => exact GFok.belowT HG_a0.out (by repeat (first | (with_reducible first | exact HB.out | apply bA | apply bN | apply bD) | exact HB.out))); (case side2 => repeat (first | exact HR1.out | with_reducible first | refine Kd.cA ?_ _ | refine Kd.cN ?_ _ | refine Kd.cD ?_)); (case side3 => exact HC1.out); rintro e w5 ⟨rfl, hb⟩; refine ⟨_, rfl, ?_⟩; have n0_ := Q9a.mk (bP (by repeat (first | (with_reducible first | exact HB.out | apply bA | apply bN | apply bD) | exact HB.out)) hb); clear HB; have HB := n0_; clear n0_; (try clear hb); (try clear hb2); (try clear hk); (try clear hi)))
 go_ret
 exact ⟨by first | rfl | (simp [*, eN, eS] <;> rfl), by repeat (first | (with_reducible first | exact HB.out | apply bA | apply bN | apply bD) | exact HB.out)⟩
def l7TowerBases.f (k : Nat) (a0_0 : Int) (a0_1 : Int) (l0_2 : List Int) (l1 : List Int) (a2 : Int) : Option (Bool) := (l7alive.f k).bind fun t123 => (if t123 = true then ((l7made.f a0_0 a0_1 l0_2).bind fun t124 => (optE t124 (some true) (fun q125 => (if (l1.length : Int) > 12 then (some true) else ((tower_IsBasis.f q125 l1 a2).bind fun t126 => ((r7IsBasis.f k a0_0 a0_1 l0_2 l1 a2).bind fun t127 => (some (t126 == t127)))))))) else (some false))
def l7TowerBases.T6 : Bool × List (List Nat × List Nat) := (true, [([], []), ([], []), ([], []), ([0, 1, 2], [0, 1, 2]), ([], []), ([], []), ([], []), ([4, 5, 6, 3], [4, 5, 6]), ([3, 7], [3, 7]), ([8, 7, 0, 1, 2, 3, 4, 5, 6, 7, 8], [8])])
def l7TowerBases.B6 : List Nat := [0, 0, 0, 7, 0, 0, 0, 127, 255, 511]
theorem l7TowerBases.tab6 : rtab .any (opsOf Try.f8 6) = l7TowerBases.T6 := by kernel_rfl
theorem l7TowerBases.bits6 : waitsOk l7TowerBases.T6.2 l7TowerBases.B6 = true := by kernel_rfl
theorem l7TowerBases.calls (k : Nat) (a0_0 : Int) (a0_1 : Int) (A0_2 : Option Addr) (c0_2 : Nat) (l0_2 : List Int) (A1 : Option Addr) (c1 : Nat) (l1 : List Int) (a2 : Int) (r : Bool) (w : World) (hr0_2 : Kd.C (Kd.int .i64) w A0_2 l0_2.length l0_2) (hc0_2 : l0_2.length ≤ c0_2) (hr1 : Kd.C (Kd.int .i64) w A1 l1.length l1) (hc1 : l1.length ≤ c1) (h : l7TowerBases.f k a0_0 a0_1 l0_2 l1 a2 = some r) :
  Calls Try.prog 8 #[.agg #[.int .i64 a0_0, .int .i64 a0_1, .slice A0_2 l0_2.length c0_2], .slice A1 l1.length c1, .int .i64 a2] w fun e w' => e = .returned (.bool r) ∧ Below w.heap.size w w' := by
 have hu24 := Try.underlying24;have HR0_2 := Q9a.mk hr0_2;have HC0_2 := Q9a.mk hc0_2;clear hr0_2 hc0_2;have HR1 := Q9a.mk hr1;have HC1 := Q9a.mk hc1;clear hr1 hc1;have HB := Q9a.mk (Below.refl w.heap.size w);have H : ((l7alive.f k).bind fun t123 => (if t123 = true then ((l7made.f a0_0 a0_1 l0_2).bind fun t124 => (optE t124 (some true) (fun q125 => (if (l1.length : Int) > 12 then (some true) else ((tower_IsBasis.f q125 l1 a2).bind fun t126 => ((r7IsBasis.f k a0_0 a0_1 l0_2 l1 a2).bind fun t127 => (some (t126 == t127)))))))) else (some false))) = some r := h;clear h;replace H := Option.bind_eq_some_iff.mp H;obtain ⟨t123, A40, H⟩ := H;replace H : (if t123 = true then ((l7made.f a0_0 a0_1 l0_2).bind fun t124 => (optE t124 (some true) (fun q125 => (if (l1.length : Int) > 12 then (some true) else ((tower_IsBasis.f q125 l1 a2).bind fun t126 => ((r7IsBasis.f k a0_0 a0_1 l0_2 l1 a2).bind fun t127 => (some (t126 == t127)))))))) else (some false)) = some r := H;have A4 := Q9a.mk A40;clear A40;by_cases c5 : t123 = true
 ·subst c5;have H1 : ((l7made.f a0_0 a0_1 l0_2).bind fun t124 => (optE t124 (some true) (fun q125 => (if (l1.length : Int) > 12 then (some true) else ((tower_IsBasis.f q125 l1 a2).bind fun t126 => ((r7IsBasis.f k a0_0 a0_1 l0_2 l1 a2).bind fun t127 => (some (t126 == t127)))))))) = some r := by rw [if_pos rfl] at H; exact H
  clear H;have H := H1;clear H1;replace H := Option.bind_eq_some_iff.mp H;obtain ⟨t124, A60, H⟩ := H;replace H : (optE t124 (some true) (fun q125 => (if (l1.length : Int) > 12 then (some true) else ((tower_IsBasis.f q125 l1 a2).bind fun t126 => ((r7IsBasis.f k a0_0 a0_1 l0_2 l1 a2).bind fun t127 => (some (t126 == t127))))))) = some r := H;have A6 := Q9a.mk A60;clear A60;rcases t124 with _ | q125
  ·have H1 : (some true) = some r := H;clear H;have H := H1;clear H1;obtain rfl := Option.some.inj H;go_enter Try.func8, Try.ntmps8
   go_wp2_with (first | ((with_reducible refine gD (N := 3) rfl ?_); (try (refine gG (by rfl) ?_; dsimp only)); refine bE ?hg (N := 3) ?hd (cs := #[.int .i64 a0_0, .int .i64 a0_1, .slice A0_2 l0_2.length c0_2]) (t := 24) ?hr ?_; (case hd => rfl); (case hg => rfl); (case hr => first | (go_simp; done) | (go_simp; rfl)); intro gb122 hg w7 hbox hb; have n0_ := Q9a.mk (bP (by repeat (first | (with_reducible first | exact HB.out | apply bA | apply bN | apply bD) | exact HB.out)) hb); have n1_ := Q9a.mk (hbox); have n2_ := Q9a.mk ((by rw [hg]; exact (bZ (by repeat (first | (with_reducible first | exact HB.out | apply bA | apply bN | apply bD) | exact HB.out))) : w.heap.size ≤ gb122)); have n3_ := n2_; clear HB; have HB := n0_; have BK122 := n1_; have GW122 := n2_; have GE122 := n3_; clear n0_ n1_ n2_ n3_; clear hb hbox hg) | ((with_reducible refine gC (f := 10) rfl ?_); refine gL (some 8) rfl rfl Try.func10 (by kernel_rfl) rfl #[] rfl (by (try simp only [sm1, sm2, sm3]); first | done | rfl | (simp only [sm4, sm5]; rfl)) ?_; (with_reducible refine (l7alive.calls k  true _ A4.out).mono ?_); rintro e w8 ⟨rfl, hb⟩; refine ⟨_, rfl, ?_⟩; have n0_ := Q9a.mk (kB (g := gb122) (o := .cells #[.int .i64 a0_0, .int .i64 a0_1, .slice A0_2 l0_2.length c0_2] 24 (0, 0)) (by (with_reducible repeat (first | refine kN ?_ _ | refine kD ?_ | refine kA ?_ _)); exact BK122.out) hb); have n1_ := Q9a.mk (bP (by repeat (first | (with_reducible first | exact HB.out | apply bA | apply bN | apply bD | refine bS ?_ GE122.out) | exact HB.out)) hb); clear BK122; clear HB; have BK122 := n0_; have HB := n1_; clear n0_ n1_; have hcz9_0 : w8.cell? ⟨gb122, 0, none⟩ = some (.int .i64 a0_0) := (kC BK122.out 0).trans rfl; have hcz9_1 : w8.cell? ⟨gb122, 1, none⟩ = some (.int .i64 a0_1) := (kC BK122.out 1).trans rfl; have hcz9_2 : w8.cell? ⟨gb122, 2, none⟩ = some (.slice A0_2 l0_2.length c0_2) := (kC BK122.out 2).trans rfl; have hfz9_0 := kF BK122.out 0; have hfz9_1 := kF BK122.out 1; have hfz9_2 := kF BK122.out 2) | ((with_reducible refine gC (f := 11) rfl ?_); refine gL (some 11) rfl rfl Try.func11 (by kernel_rfl) rfl #[.agg #[.int .i64 a0_0, .int .i64 a0_1, .slice A0_2 l0_2.length c0_2]] rfl (by (try simp only [sm1, sm2, sm3]); first | done | rfl | (simp only [sm4, sm5]; rfl)) ?_; (with_reducible refine (l7made.calls a0_0 a0_1 _ _ l0_2 none _ ?side1 ?side2 A6.out).mono ?_); (case side1 => repeat (first | exact (Kd.cB HR0_2.out HB.out) | with_reducible first | refine Kd.cA ?_ _ | refine Kd.cN ?_ _ | refine Kd.cD ?_)); (case side2 => exact HC0_2.out); rintro e w10 ⟨b_, rfl, hb, hgo⟩; refine ⟨_, rfl, ?_⟩; have n0_ := Q9a.mk (kB (g := gb122) (o := .cells #[.int .i64 a0_0, .int .i64 a0_1, .slice A0_2 l0_2.length c0_2] 24 (0, 0)) (by (with_reducible repeat (first | refine kN ?_ _ | refine kD ?_ | refine kA ?_ _)); exact BK122.out) hb); have n1_ := Q9a.mk (bP (by repeat (first | (with_reducible first | exact HB.out | apply bA | apply bN | apply bD | refine bS ?_ GE122.out) | exact HB.out)) hb); clear BK122; clear HB; have BK122 := n0_; have HB := n1_; clear n0_ n1_; (try simp only [gfW_none, gfW_some])))
   go_ret
   exact ⟨by first | rfl | (simp [*, eN, eS] <;> rfl), by repeat (first | (with_reducible first | exact HB.out | apply bA | apply bN | apply bD | refine bS ?_ GE122.out) | exact HB.out)⟩
  have H1 : (if (l1.length : Int) > 12 then (some true) else ((tower_IsBasis.f q125 l1 a2).bind fun t126 => ((r7IsBasis.f k a0_0 a0_1 l0_2 l1 a2).bind fun t127 => (some (t126 == t127))))) = some r := H;clear H;have H := H1;clear H1;by_cases c11 : (l1.length : Int) > 12
  ·rw [if_pos c11] at H;have c11b0 : decide (12 < (l1.length : Int)) = true := decide_eq_true c11;have c11b1 : decide (12 < l1.length) = true := decide_eq_true (by omega);clear c11;obtain rfl := Option.some.inj H;go_enter Try.func8, Try.ntmps8
   go_wp2_with (first | ((with_reducible refine gD (N := 3) rfl ?_); (try (refine gG (by rfl) ?_; dsimp only)); refine bE ?hg (N := 3) ?hd (cs := #[.int .i64 a0_0, .int .i64 a0_1, .slice A0_2 l0_2.length c0_2]) (t := 24) ?hr ?_; (case hd => rfl); (case hg => rfl); (case hr => first | (go_simp; done) | (go_simp; rfl)); intro gb122 hg w12 hbox hb; have n0_ := Q9a.mk (bP (by repeat (first | (with_reducible first | exact HB.out | apply bA | apply bN | apply bD) | exact HB.out)) hb); have n1_ := Q9a.mk (hbox); have n2_ := Q9a.mk ((by rw [hg]; exact (bZ (by repeat (first | (with_reducible first | exact HB.out | apply bA | apply bN | apply bD) | exact HB.out))) : w.heap.size ≤ gb122)); have n3_ := n2_; clear HB; have HB := n0_; have BK122 := n1_; have GW122 := n2_; have GE122 := n3_; clear n0_ n1_ n2_ n3_; clear hb hbox hg) | ((with_reducible refine gC (f := 10) rfl ?_); refine gL (some 8) rfl rfl Try.func10 (by kernel_rfl) rfl #[] rfl (by (try simp only [sm1, sm2, sm3]); first | done | rfl | (simp only [sm4, sm5]; rfl)) ?_; (with_reducible refine (l7alive.calls k  true _ A4.out).mono ?_); rintro e w13 ⟨rfl, hb⟩; refine ⟨_, rfl, ?_⟩; have n0_ := Q9a.mk (kB (g := gb122) (o := .cells #[.int .i64 a0_0, .int .i64 a0_1, .slice A0_2 l0_2.length c0_2] 24 (0, 0)) (by (with_reducible repeat (first | refine kN ?_ _ | refine kD ?_ | refine kA ?_ _)); exact BK122.out) hb); have n1_ := Q9a.mk (bP (by repeat (first | (with_reducible first | exact HB.out | apply bA | apply bN | apply bD | refine bS ?_ GE122.out) | exact HB.out)) hb); clear BK122; clear HB; have BK122 := n0_; have HB := n1_; clear n0_ n1_; have hcz14_0 : w13.cell? ⟨gb122, 0, none⟩ = some (.int .i64 a0_0) := (kC BK122.out 0).trans rfl; have hcz14_1 : w13.cell? ⟨gb122, 1, none⟩ = some (.int .i64 a0_1) := (kC BK122.out 1).trans rfl; have hcz14_2 : w13.cell? ⟨gb122, 2, none⟩ = some (.slice A0_2 l0_2.length c0_2) := (kC BK122.out 2).trans rfl; have hfz14_0 := kF BK122.out 0; have hfz14_1 := kF BK122.out 1; have hfz14_2 := kF BK122.out 2) | ((with_reducible refine gC (f := 11) rfl ?_); refine gL (some 11) rfl rfl Try.func11 (by kernel_rfl) rfl #[.agg #[.int .i64 a0_0, .int .i64 a0_1, .slice A0_2 l0_2.length c0_2]] rfl (by (try simp only [sm1, sm2, sm3]); first | done | rfl | (simp only [sm4, sm5]; rfl)) ?_; (with_reducible refine (l7made.calls a0_0 a0_1 _ _ l0_2 (some q125) _ ?side1 ?side2 A6.out).mono ?_); (case side1 => repeat (first | exact (Kd.cB HR0_2.out HB.out) | with_reducible first | refine Kd.cA ?_ _ | refine Kd.cN ?_ _ | refine Kd.cD ?_)); (case side2 => exact HC0_2.out); rintro e w15 ⟨b_q125, rfl, hb, hgo⟩; refine ⟨_, rfl, ?_⟩; have n0_ := Q9a.mk (kB (g := gb122) (o := .cells #[.int .i64 a0_0, .int .i64 a0_1, .slice A0_2 l0_2.length c0_2] 24 (0, 0)) (by (with_reducible repeat (first | refine kN ?_ _ | refine kD ?_ | refine kA ?_ _)); exact BK122.out) hb); have n1_ := Q9a.mk (bP (by repeat (first | (with_reducible first | exact HB.out | apply bA | apply bN | apply bD | refine bS ?_ GE122.out) | exact HB.out)) hb); clear BK122; clear HB; have BK122 := n0_; have HB := n1_; clear n0_ n1_; (try simp only [gfW_none, gfW_some]); have HBZ := HB; have HRn_ := Q9a.mk (Kd.cB HR0_2.out HB.out); clear HR0_2; have HR0_2 := HRn_; clear HRn_; have HRn_ := Q9a.mk (Kd.cB HR1.out HB.out); clear HR1; have HR1 := HRn_; clear HRn_; clear HB; obtain ⟨wz, rfl⟩ : ∃ z_ : World, z_ = w := ⟨_, rfl⟩; obtain ⟨w, rfl⟩ : ∃ z_ : World, z_ = w15 := ⟨_, rfl⟩; have HB := Q9a.mk (Below.refl w.heap.size w); have HG_q125 := Q9a.mk (hgo : GFok w b_q125 q125); clear hgo))
   go_ret
   exact ⟨by first | rfl | (simp [*, eN, eS] <;> rfl), belowZ HBZ.out (by repeat (first | (with_reducible first | exact HB.out | apply bA | apply bN | apply bD | refine bS ?_ GE122.out) | exact HB.out))⟩
  rw [if_neg c11] at H;have c11b0 : decide (12 < (l1.length : Int)) = false := decide_eq_false c11;have c11b1 : decide (12 < l1.length) = false := decide_eq_false (by omega);clear c11;replace H := Option.bind_eq_some_iff.mp H;obtain ⟨t126, A160, H⟩ := H;replace H : ((r7IsBasis.f k a0_0 a0_1 l0_2 l1 a2).bind fun t127 => (some (t126 == t127))) = some r := H;have A16 := Q9a.mk A160;clear A160;replace H := Option.bind_eq_some_iff.mp H;obtain ⟨t127, A170, H⟩ := H;replace H : (some (t126 == t127)) = some r := H;have A17 := Q9a.mk A170;clear A170;obtain rfl := Option.some.inj H;go_enter Try.func8, Try.ntmps8
  try go_wp2_with (first | ((with_reducible refine gD (N := 3) rfl ?_); (try (refine gG (by rfl) ?_; dsimp only)); refine bE ?hg (N := 3) ?hd (cs := #[.int .i64 a0_0, .int .i64 a0_1, .slice A0_2 l0_2.length c0_2]) (t := 24) ?hr ?_; (case hd => rfl); (case hg => rfl); (case hr => first | (go_simp; done) | (go_simp; rfl)); intro gb122 hg w18 hbox hb; have n0_ := Q9a.mk (bP (by repeat (first | (with_reducible first | exact HB.out | apply bA | apply bN | apply bD) | exact HB.out)) hb); have n1_ := Q9a.mk (hbox); have n2_ := Q9a.mk ((by rw [hg]; exact (bZ (by repeat (first | (with_reducible first | exact HB.out | apply bA | apply bN | apply bD) | exact HB.out))) : w.heap.size ≤ gb122)); have n3_ := n2_; clear HB; have HB := n0_; have BK122 := n1_; have GW122 := n2_; have GE122 := n3_; clear n0_ n1_ n2_ n3_; clear hb hbox hg) | ((with_reducible refine gC (f := 10) rfl ?_); refine gL (some 8) rfl rfl Try.func10 (by kernel_rfl) rfl #[] rfl (by (try simp only [sm1, sm2, sm3]); first | done | rfl | (simp only [sm4, sm5]; rfl)) ?_; (with_reducible refine (l7alive.calls k  true _ A4.out).mono ?_); rintro e w19 ⟨rfl, hb⟩; refine ⟨_, rfl, ?_⟩; have n0_ := Q9a.mk (kB (g := gb122) (o := .cells #[.int .i64 a0_0, .int .i64 a0_1, .slice A0_2 l0_2.length c0_2] 24 (0, 0)) (by (with_reducible repeat (first | refine kN ?_ _ | refine kD ?_ | refine kA ?_ _)); exact BK122.out) hb); have n1_ := Q9a.mk (bP (by repeat (first | (with_reducible first | exact HB.out | apply bA | apply bN | apply bD | refine bS ?_ GE122.out) | exact HB.out)) hb); clear BK122; clear HB; have BK122 := n0_; have HB := n1_; clear n0_ n1_; have hcz20_0 : w19.cell? ⟨gb122, 0, none⟩ = some (.int .i64 a0_0) := (kC BK122.out 0).trans rfl; have hcz20_1 : w19.cell? ⟨gb122, 1, none⟩ = some (.int .i64 a0_1) := (kC BK122.out 1).trans rfl; have hcz20_2 : w19.cell? ⟨gb122, 2, none⟩ = some (.slice A0_2 l0_2.length c0_2) := (kC BK122.out 2).trans rfl; have hfz20_0 := kF BK122.out 0; have hfz20_1 := kF BK122.out 1; have hfz20_2 := kF BK122.out 2) | ((with_reducible refine gC (f := 11) rfl ?_); refine gL (some 11) rfl rfl Try.func11 (by kernel_rfl) rfl #[.agg #[.int .i64 a0_0, .int .i64 a0_1, .slice A0_2 l0_2.length c0_2]] rfl (by (try simp only [sm1, sm2, sm3]); first | done | rfl | (simp only [sm4, sm5]; rfl)) ?_; (with_reducible refine (l7made.calls a0_0 a0_1 _ _ l0_2 (some q125) _ ?side1 ?side2 A6.out).mono ?_); (case side1 => repeat (first | exact (Kd.cB HR0_2.out HB.out) | with_reducible first | refine Kd.cA ?_ _ | refine Kd.cN ?_ _ | refine Kd.cD ?_)); (case side2 => exact HC0_2.out); rintro e w21 ⟨b_q125, rfl, hb, hgo⟩; refine ⟨_, rfl, ?_⟩; have n0_ := Q9a.mk (kB (g := gb122) (o := .cells #[.int .i64 a0_0, .int .i64 a0_1, .slice A0_2 l0_2.length c0_2] 24 (0, 0)) (by (with_reducible repeat (first | refine kN ?_ _ | refine kD ?_ | refine kA ?_ _)); exact BK122.out) hb); have n1_ := Q9a.mk (bP (by repeat (first | (with_reducible first | exact HB.out | apply bA | apply bN | apply bD | refine bS ?_ GE122.out) | exact HB.out)) hb); clear BK122; clear HB; have BK122 := n0_; have HB := n1_; clear n0_ n1_; (try simp only [gfW_none, gfW_some]); have HBZ := HB; have HRn_ := Q9a.mk (Kd.cB HR0_2.out HB.out); clear HR0_2; have HR0_2 := HRn_; clear HRn_; have HRn_ := Q9a.mk (Kd.cB HR1.out HB.out); clear HR1; have HR1 := HRn_; clear HRn_; clear HB; obtain ⟨wz, rfl⟩ : ∃ z_ : World, z_ = w := ⟨_, rfl⟩; obtain ⟨w, rfl⟩ : ∃ z_ : World, z_ = w21 := ⟨_, rfl⟩; have HB := Q9a.mk (Below.refl w.heap.size w); have HG_q125 := Q9a.mk (hgo : GFok w b_q125 q125); clear hgo))
  have n0_ := Q9a.mk (kD BK122.out);have n1_ := Q9a.mk (bD HB.out);clear BK122;clear HB;have BK122 := n0_;have HB := n1_;clear n0_ n1_;refine start_ (n := 10) (S := fun w' => w'.cell? ⟨gb122, 0, none⟩ = some (.int .i64 a0_0) ∧ w'.cell? ⟨gb122, 1, none⟩ = some (.int .i64 a0_1) ∧ w'.cell? ⟨gb122, 2, none⟩ = some (.slice A0_2 l0_2.length c0_2)) (ds := []) #[fB,fB,fB,fB,fB,fB,fB,fB,fB,fB] (by kernel_rfl) rfl rfl ⟨(kC BK122.out 0).trans rfl, (kC BK122.out 1).trans rfl, (kC BK122.out 2).trans rfl⟩ (fun hHeld => ?_); refine with_tabW l7TowerBases.tab6 l7TowerBases.bits6 (fun HT_ HW_ => ?_);generalize w.drew = w22 at BK122 HB hHeld ⊢;refine pQ 0 19 rfl (any_of HT_.out (by kernel_rfl)) ?_;refine pQ 1 20 rfl (any_of HT_.out (by kernel_rfl)) ?_;refine pQ 2 21 rfl (any_of HT_.out (by kernel_rfl)) ?_;refine pQ 5 24 rfl (any_of HT_.out (by kernel_rfl)) ?_;refine pQ 6 25 rfl (any_of HT_.out (by kernel_rfl)) ?_;refine take_ (i := 4) (N := some 23) (v := ?_) (a' := ?_) #[tB,tB,tB,fB,tB,tB,tB,fB,fB,fB] rfl rfl (take_ofW HT_.out HW_.out (by kernel_rfl)) (fun _ _ _ h => h) (Or.inl ⟨by rfl, ?_⟩) hHeld ?_ ?_;rotate_left
  ·rintro w' ⟨s0, s1, s2⟩;go_simp;with_reducible rfl
  rotate_left
  ·simp only [Act.put, sz1, sz2, sz3, i64_w, i32_w];rfl
  refine one_ (i := 3) (N := some 22) #[tB,tB,tB,tB,tB,tB,tB,fB,fB,fB] rfl rfl (one_of HT_.out (by kernel_rfl)) (by decide) (fun K hK => ?_);refine goes_ Try.func32 (by kernel_rfl) rfl #[.pointer (some ⟨b_q125, 0, none⟩), .slice A1 l1.length c1, .int .i64 a2] (by rfl) rfl rfl (by (try simp only [sm1, sm2, sm3]); first | done | rfl | (simp only [sm4, sm5]; rfl)) ?_;with_reducible refine (tower_IsBasis.calls b_q125 q125 _ _ l1 a2 t126 _ ?side1 ?side2 ?side3 A16.out).mono ?_
  (case side1 => exact GFok.belowT HG_q125.out (by repeat (first | (with_reducible first | exact HB.out | apply bA | apply bN | apply bD | refine bS ?_ GE122.out) | exact HB.out)))
  (case side2 => repeat (first | exact (Kd.cB HR1.out HB.out) | with_reducible first | refine Kd.cA ?_ _ | refine Kd.cN ?_ _ | refine Kd.cD ?_))
  (case side3 => exact HC1.out)
  rintro e w23 ⟨rfl, hb⟩;refine ⟨_, rfl, ?_⟩;have n0_ := Q9a.mk (kB (g := gb122) (o := .cells #[.int .i64 a0_0, .int .i64 a0_1, .slice A0_2 l0_2.length c0_2] 24 (0, 0)) (by (with_reducible repeat (first | refine kN ?_ _ | refine kD ?_ | refine kA ?_ _)); exact BK122.out) hb);have n1_ := Q9a.mk (bP (by repeat (first | (with_reducible first | exact HB.out | apply bA | apply bN | apply bD | refine bS ?_ GE122.out) | exact HB.out)) hb);clear BK122;clear HB;have BK122 := n0_;have HB := n1_;clear n0_ n1_;(try clear hb)
  (try clear hb2)
  (try clear hk)
  (try clear hi)
  refine hK.out _ _ ⟨(kC BK122.out 0).trans rfl, (kC BK122.out 1).trans rfl, (kC BK122.out 2).trans rfl⟩ (fun hHeld => ?_);clear hK K;refine norm_ (a' := ?_) ?_ ?_;rotate_left
  ·show Act.put _ (some 22) _ = _
   simp only [Act.put, sz1, sz2, sz3, i64_w, i32_w];rfl
  refine one_ (i := 7) (N := some 26) #[tB,tB,tB,tB,tB,tB,tB,tB,fB,fB] rfl rfl (one_of HT_.out (by kernel_rfl)) (by decide) (fun K hK => ?_);refine goes_ Try.func14 (by kernel_rfl) rfl #[.agg #[.int .i64 a0_0, .int .i64 a0_1, .slice A0_2 l0_2.length c0_2], .slice A1 l1.length c1, .int .i64 a2] (by rfl) rfl rfl (by (try simp only [sm1, sm2, sm3]); first | done | rfl | (simp only [sm4, sm5]; rfl)) ?_;with_reducible refine (r7IsBasis.calls k a0_0 a0_1 _ _ l0_2 _ _ l1 a2 t127 _ ?side1 ?side2 ?side3 ?side4 A17.out).mono ?_
  (case side1 => repeat (first | exact (Kd.cB HR0_2.out HB.out) | with_reducible first | refine Kd.cA ?_ _ | refine Kd.cN ?_ _ | refine Kd.cD ?_))
  (case side2 => exact HC0_2.out)
  (case side3 => repeat (first | exact (Kd.cB HR1.out HB.out) | with_reducible first | refine Kd.cA ?_ _ | refine Kd.cN ?_ _ | refine Kd.cD ?_))
  (case side4 => exact HC1.out)
  rintro e w24 ⟨rfl, hb⟩;refine ⟨_, rfl, ?_⟩;have n0_ := Q9a.mk (kB (g := gb122) (o := .cells #[.int .i64 a0_0, .int .i64 a0_1, .slice A0_2 l0_2.length c0_2] 24 (0, 0)) (by (with_reducible repeat (first | refine kN ?_ _ | refine kD ?_ | refine kA ?_ _)); exact BK122.out) hb);have n1_ := Q9a.mk (bP (by repeat (first | (with_reducible first | exact HB.out | apply bA | apply bN | apply bD | refine bS ?_ GE122.out) | exact HB.out)) hb);clear BK122;clear HB;have BK122 := n0_;have HB := n1_;clear n0_ n1_;(try clear hb)
  (try clear hb2)
  (try clear hk)
  (try clear hi)
  refine hK.out _ _ ⟨(kC BK122.out 0).trans rfl, (kC BK122.out 1).trans rfl, (kC BK122.out 2).trans rfl⟩ (fun hHeld => ?_);clear hK K;refine norm_ (a' := ?_) ?_ ?_;rotate_left
  ·show Act.put _ (some 26) _ = _
   simp only [Act.put, sz1, sz2, sz3, i64_w, i32_w];rfl
  refine pQ 8 27 rfl (any_of HT_.out (by kernel_rfl)) ?_;refine pQ 9 6 rfl (any_of HT_.out (by kernel_rfl)) ?_;refine done_ (done_of HT_.out (by kernel_rfl)) ?_;try go_wp2
  go_ret
  exact ⟨by first | rfl | (simp [*, eN, eS] <;> rfl), belowZ HBZ.out (by repeat (first | (with_reducible first | exact HB.out | apply bA | apply bN | apply bD | refine bS ?_ GE122.out) | exact HB.out))⟩
 replace c5 := Bool.eq_false_iff.mpr c5;subst c5;have H1 : (some false) = some r := by rw [if_neg (show ¬ (false = true) by decide)] at H; exact H
 clear H;have H := H1;clear H1;obtain rfl := Option.some.inj H;go_enter Try.func8, Try.ntmps8
 go_wp2_with (first | ((with_reducible refine gD (N := 3) rfl ?_); (try (refine gG (by rfl) ?_; dsimp only)); refine bE ?hg (N := 3) ?hd (cs := #[.int .i64 a0_0, .int .i64 a0_1, .slice A0_2 l0_2.length c0_2]) (t := 24) ?hr ?_; (case hd => rfl); (case hg => rfl); (case hr => first | (go_simp; done) | (go_simp; rfl)); intro gb122 hg w25 hbox hb; have n0_ := Q9a.mk (bP (by repeat (first | (with_reducible first | exact HB.out | apply bA | apply bN | apply bD) | exact HB.out)) hb); have n1_ := Q9a.mk (hbox); have n2_ := Q9a.mk ((by rw [hg]; exact (bZ (by repeat (first | (with_reducible first | exact HB.out | apply bA | apply bN | apply bD) | exact HB.out))) : w.heap.size ≤ gb122)); have n3_ := n2_; clear HB; have HB := n0_; have BK122 := n1_; have GW122 := n2_; have GE122 := n3_; clear n0_ n1_ n2_ n3_; clear hb hbox hg) | ((with_reducible refine gC (f := 10) rfl ?_); refine gL (some 8) rfl rfl Try.func10 (by kernel_rfl) rfl #[] rfl (by (try simp only [sm1, sm2, sm3]); first | done | rfl | (simp only [sm4, sm5]; rfl)) ?_; (with_reducible refine (l7alive.calls k  false _ A4.out).mono ?_); rintro e w26 ⟨rfl, hb⟩; refine ⟨_, rfl, ?_⟩; have n0_ := Q9a.mk (kB (g := gb122) (o := .cells #[.int .i64 a0_0, .int .i64 a0_1, .slice A0_2 l0_2.length c0_2] 24 (0, 0)) (by (with_reducible repeat (first | refine kN ?_ _ | refine kD ?_ | refine kA ?_ _)); exact BK122.out) hb); have n1_ := Q9a.mk (bP (by repeat (first | (with_reducible first | exact HB.out | apply bA | apply bN | apply bD | refine bS ?_ GE122.out) | exact HB.out)) hb); clear BK122; clear HB; have BK122 := n0_; have HB := n1_; clear n0_ n1_; (try clear hb); (try clear hb2); (try clear hk); (try clear hi)))
 go_ret
 exact ⟨by first | rfl | (simp [*, eN, eS] <;> rfl), by repeat (first | (with_reducible first | exact HB.out | apply bA | apply bN | apply bD | refine bS ?_ GE122.out) | exact HB.out)⟩
end
end Go.Proofs.Ytlbddjojhcgpiaa.P
end
-- T9
section
namespace Go.Proofs.Ytlbddjojhcgpiaa.Pl
open Go.RowKit Go.Proofs.Ytlbddjojhcgpiaa.P Go.Proofs.Ytlbddjojhcgpiaa.Hand Go.Proofs.YtlbddjojhcgpiaaW.PrintWords
variable {G : GFv} {P M : Int} {mod : List Int}
noncomputable def subE (G : GFv) (d : Nat) : List (Cw.El G.F) := (subs G d).map G.el
theorem subE_num (G : GFv) (d : Nat) : (subE G d).map G.num = subs G d := by
 unfold subE
 rw [List.map_map];refine (List.map_congr_left (fun x hx => ?_)).trans (List.map_id _);show G.num (G.el x) = x
 rw [G.num_el, G.inn_of (mem_subs.1 hx).1]
theorem subE_sb (G : GFv) (d : Nat) : Cw.Sb d (subE G d) := by
 constructor
 ·unfold subE
  refine Cw.nodup_map ?_ (fun x hx y hy e => ?_)
  ·unfold subs
   refine Cw.nodup_filter _ ?_;unfold upto
   exact Cw.nodup_map List.nodup_range (fun _ _ _ _ e => Int.ofNat.inj e)
  have h1 := (mem_subs.1 hx).1;have h2 := (mem_subs.1 hy).1;rw [← G.inn_of h1, ← G.inn_of h2, ← G.num_el, ← G.num_el, e]
 intro x;unfold subE
 rw [List.mem_map];constructor
 ·rintro ⟨y, hy, rfl⟩;exact (mem_subs.1 hy).2
 intro h;exact ⟨G.num x, num_mem_subs h, G.el_num x⟩
theorem subE_len (G : GFv) {d : Nat} (h1 : 1 ≤ d) (hd : d ∣ G.F.m) : (subE G d).length = G.F.p ^ d := by
 unfold subE
 rw [List.length_map, subs_len G h1 hd]
def nums' (G : GFv) (l : List (Cw.El G.F)) : List Int := l.map G.num
theorem nums'_len (G : GFv) (l : List (Cw.El G.F)) : (nums' G l).length = l.length := by simp [nums']
theorem nums'_rd (G : GFv) (l : List (Cw.El G.F)) {i : Nat} (h : i < l.length) : rd (nums' G l) (i : Int) = G.num l[i] := by
 unfold rd nums'
 rw [Int.toNat_natCast, List.getD_eq_getElem?_getD, List.getElem?_map, List.getElem?_eq_getElem h]; rfl
theorem wsucc (j : Nat) (h : j < 1000000) : wrap64 ((j : Int) + 1) = ((j + 1 : Nat) : Int) := by rw [Pl.w64 (by omega) (by omega)]; rfl
section
variable (h : Is G P M mod) (S : List (Cw.El G.F)) (l : List Int)
include h
theorem isb_l2 (hS : S.length ≤ 256) (hl : l.length ≤ 16) (y : List (Cw.El G.F)) (hy : y.length ≤ 256) (i j : Nat) (hi : i < l.length) (hj : j < y.length) (nx : List (Cw.El G.F)) (hnx : nx.length ≤ 65536) (R : Bool)
  (hR : Ev (fun k => r7IsBasis.l1 k l (nums' G S) (nums' G y) (i : Int) (nums' G (nx ++ S.map (fun s => y[j] + s * elL G l i))) ((j + 1 : Nat) : Int) P M mod) R) :
  ∀ e k0, k0 + e = S.length → Ev (fun k => r7IsBasis.l2 k l (nums' G S) (nums' G y) (i : Int) (nums' G (nx ++ (S.take k0).map (fun s => y[j] + s * elL G l i))) (j : Int) (k0 : Int) P M mod) R := by
 intro e;induction e with
 | zero =>
  intro k0 hk;have hj1 : wrap64 ((j : Int) + 1) = ((j + 1 : Nat) : Int) := wsucc j (by omega);have c0 : ¬ (k0 : Int) < (S.length : Int) := by omega
  have c1 : ¬ (k0 : Int) < ((nums' G S).length : Int) := by rw [nums'_len]; exact c0
  refine Ev.step (fun k => ?_) hR;simp only [r7IsBasis.l2];rw [if_neg c1, hj1, List.take_of_length_le (by omega)]
 | succ e ih =>
  intro k0 hk;have hkS : k0 < S.length := by omega
  have hke : k0 + 1 + e = S.length := by omega
  have hk1 : wrap64 ((k0 : Int) + 1) = ((k0 + 1 : Nat) : Int) := wsucc k0 (by omega);have c2 : (0 : Int) ≤ (j : Int) := by omega
  have c4 : (0 : Int) ≤ (k0 : Int) := by omega
  have c5 : (0 : Int) ≤ (i : Int) := by omega
  have c6 : (i : Int) < (l.length : Int) := by omega
  have hmin : nx.length + min k0 S.length ≤ 70000 := by omega
  have c1 : (k0 : Int) < ((nums' G S).length : Int) := by rw [nums'_len]; exact Int.ofNat_lt.2 hkS
  have c3 : (j : Int) < ((nums' G y).length : Int) := by rw [nums'_len]; exact Int.ofNat_lt.2 hj
  have hlen0 : (nums' G (nx ++ (S.take k0).map (fun s => y[j] + s * elL G l i))).length ≤ 70000 := by
   rw [nums'_len, List.length_append, List.length_map, List.length_take];exact hmin
  have hlen : (nums' G (nx ++ (S.take k0).map (fun s => y[j] + s * elL G l i))).length < 17592186044416 := Nat.lt_of_le_of_lt hlen0 (by decide);clear hlen0;have hm := is_mul h (G.num S[k0]) (rd l (i : Int));have hrl : rd l (i : Int) = l.getD i 0 := by unfold rd; rw [Int.toNat_natCast]
  have em : G.mul (G.num S[k0]) (rd l (i : Int)) = G.num (S[k0] * elL G l i) := by
   rw [hrl];unfold Cw.GFv.mul elL
   rw [G.el_num]
  rw [em] at hm;have ha := is_add h (G.num y[j]) (G.num (S[k0] * elL G l i))
  have ea : G.add (G.num y[j]) (G.num (S[k0] * elL G l i)) = G.num (y[j] + S[k0] * elL G l i) := by
   unfold Cw.GFv.add
   rw [G.el_num, G.el_num]
  rw [ea] at ha;refine Ev.step (fun k => by simp only [r7IsBasis.l2]; rw [if_pos c1, if_pos c2, if_pos c3, if_pos c4, if_pos c5, if_pos c6, nums'_rd G S hkS, nums'_rd G y hj]) (Ev.bind hm (Ev.bind ha ?_));refine Ev.congr (fun k => if_pos hlen) ?_
  have hnext : nums' G (nx ++ (S.take k0).map (fun s => y[j] + s * elL G l i)) ++ [G.num (y[j] + S[k0] * elL G l i)] = nums' G (nx ++ (S.take (k0 + 1)).map (fun s => y[j] + s * elL G l i)) := by
   rw [← List.take_append_getElem hkS, List.map_append, ← List.append_assoc];unfold nums'
   rw [List.map_append (l₁ := nx ++ (S.take k0).map (fun s => y[j] + s * elL G l i))];rfl
  rw [hnext, hk1];exact ih (k0 + 1) hke
theorem isb_l1 (hS : S.length ≤ 256) (hl : l.length ≤ 16) (y : List (Cw.El G.F)) (hy : y.length ≤ 256) (i : Nat) (hi : i < l.length) (R : Bool)
  (hR : Ev (fun k => r7IsBasis.l0 k l (nums' G S) (nums' G (y.flatMap (fun z => S.map (fun s => z + s * elL G l i)))) ((i + 1 : Nat) : Int) P M mod) R) :
  ∀ e j, j + e = y.length → Ev (fun k => r7IsBasis.l1 k l (nums' G S) (nums' G y) (i : Int) (nums' G ((y.take j).flatMap (fun z => S.map (fun s => z + s * elL G l i)))) (j : Int) P M mod) R := by
 intro e;induction e with
 | zero =>
  intro j hj;have hi1 : wrap64 ((i : Int) + 1) = ((i + 1 : Nat) : Int) := wsucc i (by omega);have c0 : ¬ (j : Int) < (y.length : Int) := by omega
  have c1 : ¬ (j : Int) < ((nums' G y).length : Int) := by rw [nums'_len]; exact c0
  refine Ev.step (fun k => ?_) hR;simp only [r7IsBasis.l1];rw [if_neg c1, hi1, List.take_of_length_le (by omega)]
 | succ e ih =>
  intro j hj;have hjy : j < y.length := by omega
  have hje : j + 1 + e = y.length := by omega
  have flen : ∀ L : List (Cw.El G.F), (L.flatMap (fun z => S.map (fun s => z + s * elL G l i))).length = L.length * S.length := by
   intro L;induction L with
   | nil => simp
   | cons a L ih => rw [List.flatMap_cons, List.length_append, ih, List.length_map, List.length_cons, Nat.succ_mul, Nat.add_comm]
  have hb : ((y.take j).flatMap (fun z => S.map (fun s => z + s * elL G l i))).length ≤ 65536 := by
   rw [flen, List.length_take];have := Nat.mul_le_mul (show min j y.length ≤ 256 by omega) hS;omega
  have c1 : (j : Int) < ((nums' G y).length : Int) := by rw [nums'_len]; exact Int.ofNat_lt.2 hjy
  have hn : (y.take (j + 1)).flatMap (fun z => S.map (fun s => z + s * elL G l i)) = (y.take j).flatMap (fun z => S.map (fun s => z + s * elL G l i)) ++ S.map (fun s => y[j] + s * elL G l i) := by
   rw [← List.take_append_getElem hjy, List.flatMap_append];congr 1
   simp
  have h3 := ih (j + 1) hje;rw [hn] at h3;have h2 := isb_l2 h S l hS hl y hy i j hi hjy _ hb R h3 S.length 0 (by omega);rw [List.take_zero, List.map_nil, List.append_nil] at h2;refine Ev.step (fun k => ?_) h2;simp only [r7IsBasis.l1];rw [if_pos c1];rfl
open Classical in
theorem isb_l3 (xs : List Int) (hxs : ∀ t, t < xs.length → 0 ≤ xs.getD t 0 ∧ xs.getD t 0 < (G.q : Int)) (hlen : xs.length ≤ 65536) : ∀ e i, i + e = xs.length → (∀ a b, a < i → b < i → xs.getD a 0 = xs.getD b 0 → a = b) →
  Ev (fun k => r7IsBasis.l3 k xs (btab G.q (memB xs i)) (i : Int)) (decide (∀ a b, a < xs.length → b < xs.length → xs.getD a 0 = xs.getD b 0 → a = b)) := by
 intro e;induction e with
 | zero =>
  intro i hi hd;obtain rfl : i = xs.length := by omega
  rw [decide_eq_true hd];refine Ev.step (f := fun _ => some _) (fun k => ?_) (Ev.now _);simp only [r7IsBasis.l3];rw [if_neg (by omega)]
 | succ e ih =>
  intro i hi hd;have hix : i < xs.length := by omega
  have hie : i + 1 + e = xs.length := by omega
  have c1 : (i : Int) < (xs.length : Int) := by omega
  have c2 : (0 : Int) ≤ (i : Int) := by omega
  have hi1 : wrap64 ((i : Int) + 1) = ((i + 1 : Nat) : Int) := by rw [Pl.w64 (by omega) (by omega)]; rfl
  have hrd : rd xs (i : Int) = xs.getD i 0 := by unfold rd; rw [Int.toNat_natCast]
  obtain ⟨h0, h1⟩ := hxs i hix;obtain ⟨y, hy⟩ := Int.eq_ofNat_of_zero_le h0;have hyq : y < G.q := by omega
  have hbl : ((btab G.q (memB xs i)).length : Int) = (G.q : Int) := by simp [btab]
  have hat : rdOf false (btab G.q (memB xs i)) (y : Int) = memB xs i y := by
   unfold rdOf btab
   rw [Int.toNat_natCast, List.getD_eq_getElem?_getD, List.getElem?_map, List.getElem?_range hyq]; rfl
  by_cases hm : memB xs i y = true
  ·have hno : ¬ ∀ a b, a < xs.length → b < xs.length → xs.getD a 0 = xs.getD b 0 → a = b := by
    intro hall;obtain ⟨t, ht, he⟩ := of_decide_eq_true hm;have := hall t i (by omega) hix (by rw [he, hy]);omega
   rw [decide_eq_false hno];refine Ev.step (f := fun _ => some _) (fun k => ?_) (Ev.now _);simp only [r7IsBasis.l3];rw [if_pos c1, if_pos c2, hrd, hy, if_pos (by omega), hbl, if_pos (by omega), hat, if_pos hm]
  refine Ev.step (fun k => ?_) (ih (i + 1) hie (fun a b ha hb hab => ?_))
  ·simp only [r7IsBasis.l3];rw [if_pos c1, if_pos c2, hrd, hy, if_pos (by omega), hbl, if_pos (by omega), hat, if_neg hm, hi1, Int.toNat_natCast, memB_succ hy hyq]
  have hnm : ∀ t, t < i → xs.getD t 0 ≠ xs.getD i 0 := fun t ht he => hm (decide_eq_true ⟨t, ht, by rw [he, hy]⟩)
  by_cases h1 : a = i
  ·by_cases h2 : b = i
   ·rw [h1, h2]
   rw [h1] at hab;exact absurd hab.symm (hnm b (by omega))
  by_cases h2 : b = i
  ·rw [h2] at hab;exact absurd hab (hnm a (by omega))
  exact hd a b (by omega) (by omega) hab
end
open Classical in
theorem nodup_getD (G : GFv) (L : List (Cw.El G.F)) : (∀ a b, a < (nums' G L).length → b < (nums' G L).length → (nums' G L).getD a 0 = (nums' G L).getD b 0 → a = b) ↔ L.Nodup := by
 have hg : ∀ a (ha : a < L.length), (nums' G L).getD a 0 = G.num L[a] := by
  intro a ha;unfold nums'
  rw [List.getD_eq_getElem?_getD, List.getElem?_map, List.getElem?_eq_getElem ha]; rfl
 rw [nums'_len];constructor
 ·intro h;refine List.pairwise_iff_getElem.2 (fun i j hi hj hij e => ?_);have h1 := h i j hi hj (by rw [hg i hi, hg j hj, e]);omega
 intro h a b ha hb hab;rw [hg a ha, hg b hb] at hab;have hab := G.num_inj hab;have h1 := List.pairwise_iff_getElem.1 h;rcases Nat.lt_trichotomy a b with h2 | h2 | h2
 ·exact absurd hab (h1 a b ha hb h2)
 ·exact h2
 exact absurd hab.symm (h1 b a hb ha h2)
theorem isb_l0 (h : Is G P M mod) (S : List (Cw.El G.F)) (l : List Int) (hS : S.length ≤ 256) (hl : l.length ≤ 16) (hb : ∀ i, i ≤ l.length → S.length ^ i ≤ 256) (R : Bool)
  (hR : Ev (fun k => r7IsBasis.l3 k (nums' G (Cw.cmb S (elL G l) l.length)) (btab G.q (memB (nums' G (Cw.cmb S (elL G l) l.length)) 0)) ((0 : Nat) : Int)) R) :
  ∀ e i, i + e = l.length → Ev (fun k => r7IsBasis.l0 k l (nums' G S) (nums' G (Cw.cmb S (elL G l) i)) (i : Int) P M mod) R := by
 intro e;have hq := G.q_le;induction e with
 | zero =>
  intro i hi;obtain rfl : i = l.length := by omega
  have c1 : ¬ (l.length : Int) < (l.length : Int) := Int.lt_irrefl _;refine Ev.step (fun k => by simp only [r7IsBasis.l0]; rw [if_neg c1]) (Ev.bind (is_order04 h) ?_)
  have hrep : List.replicate ((G.q : Int)).toNat false = btab G.q (memB (nums' G (Cw.cmb S (elL G l) l.length)) 0) := by
   rw [Int.toNat_natCast];apply List.ext_getElem?
   intro t;have hz : memB (nums' G (Cw.cmb S (elL G l) l.length)) 0 t = false := decide_eq_false (by rintro ⟨s, hs, _⟩; omega);unfold btab
   rw [List.getElem?_replicate, List.getElem?_map];by_cases ht : t < G.q
   ·rw [List.getElem?_range ht, if_pos ht];show some false = some (memB (nums' G (Cw.cmb S (elL G l) l.length)) 0 t)
    rw [hz]
   rw [if_neg ht, List.getElem?_eq_none (by rw [List.length_range]; omega)];rfl
  refine Ev.congr (fun k => ?_) hR;rw [if_pos (by omega), if_pos (by omega), hrep];rfl
 | succ e ih =>
  intro i hi;have hil : i < l.length := by omega
  have hie : i + 1 + e = l.length := by omega
  have c1 : (i : Int) < (l.length : Int) := by omega
  have hy : (Cw.cmb S (elL G l) i).length ≤ 256 := by rw [Cw.cmb_length]; exact hb i (by omega)
  have h1 := isb_l1 h S l hS hl (Cw.cmb S (elL G l) i) hy i hil R (ih (i + 1) hie) _ 0 (Nat.zero_add _);refine Ev.step (fun k => ?_) h1;simp only [r7IsBasis.l0];rw [if_pos c1];rfl
open Classical in
def Bas (G : GFv) (d : Int) (l : List Int) : Prop := ∃ d' : Nat, d = (d' : Int) ∧ 1 ≤ d' ∧ d' ∣ G.F.m ∧ l.length = G.F.m / d' ∧ Cw.Inj d' (G.F.m / d') (elL G l)
theorem quot_tdiv (G : GFv) {d : Nat} (hd1 : 1 ≤ d) : wrap64 (Int.tdiv (G.F.m : Int) (d : Int)) = ((G.F.m / d : Nat) : Int) := by
 have hm := G.m_le;have := Nat.div_le_self G.F.m d;rw [Cw.tdiv_nat];exact Pl.w64n _ (by omega)
open Classical in
theorem refIsBasis (h : Is G P M mod) (l : List Int) (D : Int) (hl : l.length ≤ 16) : Ev (fun k => r7IsBasis.f k P M mod l D) (decide (Bas G D l)) := by
 have hM : M = (G.F.m : Int) := h.2.1.symm;have hm := G.m_le;have hq := G.q_le
 have bad : ∀ b : Bool, b = true → ¬ Bas G D l → Ev (fun k => r7IsBasis.j0 k l D b P M mod) (decide (Bas G D l)) := by
  intro b hb hn;subst hb;rw [decide_eq_false hn];refine Ev.step (f := fun _ => some _) (fun k => ?_) (Ev.now _);simp only [r7IsBasis.j0];rfl
 have hdv := divides_f h D;by_cases hD : Dv G D
 ·rw [decide_eq_true hD] at hdv;obtain ⟨d, rfl, hd1, hdm⟩ := hD;have hdl := Nat.le_of_dvd G.m_pos hdm;have hd0 : ¬ (d : Int) = 0 := by omega
  refine Ev.bind (Ev.congr (fun _ => hdv) (Ev.now _)) ?_;refine Ev.congr (fun k => (if_pos rfl).trans (if_neg hd0)) ?_;rw [hM, quot_tdiv G hd1, ← hM];by_cases hll : l.length = G.F.m / d
  ·have hbne : ((l.length : Int) != ((G.F.m / d : Nat) : Int)) = false := bne_eq_false_iff_eq.2 (by omega);rw [hbne];have hsub := refSubfield h d (by omega);have hSl := subE_len G hd1 hdm
   have hpow : ∀ i, i ≤ l.length → (subE G d).length ^ i ≤ 256 := by
    intro i hi;rw [hSl, ← Nat.pow_mul];refine Nat.le_trans (Nat.pow_le_pow_right (by have := G.p_ge; omega) ?_) hq;rw [hll] at hi;exact Nat.le_trans (Nat.mul_le_mul_left d hi) (Nat.mul_div_le _ _)
   have hS1 : (subE G d).length ≤ 256 := by
    have h1 := hpow 1 (by rw [hll]; exact Nat.div_pos hdl hd1);rwa [Nat.pow_one] at h1
   have hlc : (nums' G (Cw.cmb (subE G d) (elL G l) l.length)).length ≤ 65536 := by
    rw [nums'_len, Cw.cmb_length];have := hpow l.length (Nat.le_refl _);omega
   have h3 := isb_l3 h (nums' G (Cw.cmb (subE G d) (elL G l) l.length)) (fun t ht => by
    rw [nums'_len] at ht
    have e : (nums' G (Cw.cmb (subE G d) (elL G l) l.length)).getD t 0 = G.num ((Cw.cmb (subE G d) (elL G l) l.length)[t]) := by
     unfold nums'
     rw [List.getD_eq_getElem?_getD, List.getElem?_map, List.getElem?_eq_getElem ht]; rfl
    rw [e];exact G.num_is _) hlc _ 0 (Nat.zero_add _) (fun a b ha => by omega)
   have h0 := isb_l0 h (subE G d) l hS1 hl hpow _ h3 l.length 0 (by omega)
   have hiff : (∀ a b, a < (nums' G (Cw.cmb (subE G d) (elL G l) l.length)).length → b < (nums' G (Cw.cmb (subE G d) (elL G l) l.length)).length → (nums' G (Cw.cmb (subE G d) (elL G l) l.length)).getD a 0 = (nums' G (Cw.cmb (subE G d) (elL G l) l.length)).getD b 0 → a = b) ↔ Bas G (d : Int) l := by
    rw [nodup_getD];constructor
    ·intro hnd;refine ⟨d, rfl, hd1, hdm, hll, Cw.inj_of_ind (K := Cw.El G.F) hdm hd1 ?_⟩;have := Cw.ind_of_nodup (subE_sb G d) _ hnd;rw [hll] at this;exact this
    rintro ⟨d', e1, _, _, _, hI⟩;obtain rfl : d = d' := by omega
    refine Cw.nodup_of_ind (subE_sb G d) _ ?_;rw [hll];exact Cw.ind_of_inj hI
   have hdec : decide (Bas G (d : Int) l) = decide (∀ a b, a < (nums' G (Cw.cmb (subE G d) (elL G l) l.length)).length → b < (nums' G (Cw.cmb (subE G d) (elL G l) l.length)).length → (nums' G (Cw.cmb (subE G d) (elL G l) l.length)).getD a 0 = (nums' G (Cw.cmb (subE G d) (elL G l) l.length)).getD b 0 → a = b) := decide_eq_decide.2 hiff.symm;rw [hdec];refine Ev.step (fun k => by simp only [r7IsBasis.j0]; rw [if_neg Bool.false_ne_true]) (Ev.bind hsub ?_);refine Ev.congr (fun k => ?_) h0;rw [← subE_num]
   have e0 : nums' G (Cw.cmb (subE G d) (elL G l) 0) = [0] := by
    show [G.num 0] = [0]
    rw [G.num_zero]
   rw [e0];rfl
  refine bad _ (bne_iff_ne.2 (by omega)) ?_;rintro ⟨d', e1, _, _, h4, _⟩;obtain rfl : d = d' := by omega
  exact hll h4
 rw [decide_eq_false hD] at hdv;refine Ev.bind (Ev.congr (fun _ => hdv) (Ev.now _)) ?_;refine Ev.congr (fun k => if_neg Bool.false_ne_true) ?_;refine bad _ rfl ?_;rintro ⟨d', e1, h2, h3, _⟩;exact hD ⟨d', e1, h2, h3⟩
theorem basis_yes {l : List Int} {D : Int} (h : Bas G D l) : tower_basis.f G l D = some 0 := by
 classical
 obtain ⟨d, rfl, hd1, hdm, hl, hI⟩ := h;unfold tower_basis.f
 rw [if_neg (fun hn => hn ⟨d, rfl, hd1, hdm⟩), Int.toNat_natCast, if_neg (fun hn => hn hl), if_pos hI]
theorem basis_rank {l : List Int} {D : Int} (hD : Dv G D) (h : ¬ Bas G D l) : tower_basis.f G l D = some 9 := by
 classical
 obtain ⟨d, rfl, hd1, hdm⟩ := hD;unfold tower_basis.f
 rw [if_neg (fun hn => hn ⟨d, rfl, hd1, hdm⟩), Int.toNat_natCast];by_cases hl : l.length = G.F.m / d
 ·rw [if_neg (fun hn => hn hl), if_neg (fun hI => h ⟨d, rfl, hd1, hdm, hl, hI⟩)]
 rw [if_pos hl]
theorem basis_range {l : List Int} {D : Int} (hD : ¬ Dv G D) : tower_basis.f G l D = some 6 := by
 classical
 unfold tower_basis.f
 rw [if_pos hD]
end Go.Proofs.Ytlbddjojhcgpiaa.Pl
end
-- PureBB
section
namespace Go.Proofs.Ytlbddjojhcgpiaa
open Go.RowKit Go.Proofs.Ytlbddjojhcgpiaa.P Go.Proofs.Ytlbddjojhcgpiaa.Hand Go.Proofs.YtlbddjojhcgpiaaW.PrintWords Pl
theorem Pl.alive : Ev (fun k => l7alive.f k) true := by
 obtain ⟨G, h1, h2, h3, h4⟩ := ex_field;refine Ev.bind (Ev.congr (fun _ => h1) (Ev.now _)) ?_;dsimp only [optE];refine Ev.bind (Ev.congr (fun _ => h2) (Ev.now _)) ?_;refine Ev.bind h3 ?_;refine Ev.congr (fun k => if_pos rfl) ?_;refine Ev.bind ex_same ?_;refine Ev.congr (fun k => (if_pos rfl).trans ((if_pos rfl).trans (if_pos rfl))) ?_;refine Ev.bind h4 ?_;exact Ev.congr (fun k => rfl) (Ev.now _)
open Classical in
theorem Pl.isBasis_f (G : GFv) (l : List Int) (D : Int) : tower_IsBasis.f G l D = some (decide (Bas G D l)) := by
 have key : ∀ e : Int, tower_basis.f G l D = some e → tower_IsBasis.f G l D = some (e == 0) := by
  intro e he;unfold tower_IsBasis.f
  rw [he];rfl
 by_cases h : Bas G D l
 ·rw [key 0 (basis_yes h), decide_eq_true h];rfl
 rw [decide_eq_false h];by_cases hD : Dv G D
 ·rw [key 9 (basis_rank hD h)];rfl
 rw [key 6 (basis_range hD)];rfl
theorem Pure.TowerBases (P M : Int) (m : List Int) (l : List Int) (D : Int) (wP : (Lit.int .i64 P).wf = true) (wM : (Lit.int .i64 M).wf = true) (hm : m.length ≤ maxLen) (wm : ∀ x ∈ m, (Lit.int .i64 x).wf = true) (hl : l.length ≤ maxLen) (wl : ∀ x ∈ l, (Lit.int .i64 x).wf = true) (wD : (Lit.int .i64 D).wf = true) :
  ∃ k, l7TowerBases.f k P M m l D = some true := by
 classical
 refine Ev.rounds (g := fun k => l7TowerBases.f k P M m l D) ?_;refine Ev.bind Pl.alive ?_;refine Ev.congr (fun k => if_pos rfl) ?_;rcases made_cases P M m (wf_lt wP) with ⟨ho, _⟩ | ⟨G, hG, ho, _⟩
 ·refine Ev.bind (Ev.congr (fun _ => ho) (Ev.now _)) ?_;dsimp only [optE];exact Ev.now _
 refine Ev.bind (Ev.congr (fun _ => ho) (Ev.now _)) ?_;dsimp only [optE];by_cases h12 : (l.length : Int) > 12
 ·exact Ev.congr (fun k => if_pos h12) (Ev.now _)
 refine Ev.congr (fun k => if_neg h12) ?_;refine Ev.bind (Ev.congr (fun _ => Pl.isBasis_f G l D) (Ev.now _)) ?_;refine Ev.bind (refIsBasis hG l D (by omega)) ?_;exact Ev.congr (fun k => congrArg some (beq_iff_eq.2 rfl)) (Ev.now _)
end Go.Proofs.Ytlbddjojhcgpiaa
end
