/- What dlogProducts_holds needs: texts Q5, Tbm, put together. -/
import Derived.Test.YtbohbfggmnjpdaaKLU10
import Derived.Maps.Own
import Derived.Maps.OwnOps
import Derived.Maps.OwnSet
import Derived.Maps.Views
set_option linter.unusedVariables false
set_option linter.unusedSimpArgs false
-- Q5
section
namespace Go.Proofs.Ytbohbfggmnjpdaa.Pl
open Go.RowKit Go.Proofs.Ytbohbfggmnjpdaa.P Go.Proofs.Ytbohbfggmnjpdaa.Hand Go.Proofs.YtbohbfggmnjpdaaW.PrintWords
variable {G : GFv} {P M : Int} {mod : List Int}
theorem el_ne {G : GFv} {x : Int} : G.el x ≠ 0 ↔ G.is x ∧ x ≠ 0 := by
 rw [ne_eq, G.el_eq_zero]
 constructor
 ·intro h
  have h1 : G.is x := Classical.byContradiction fun hn => h (by unfold Cw.GFv.inn; rw [if_neg hn])
  exact ⟨h1, fun h0 => h (by rw [G.inn_of h1]; exact h0)⟩
 ·rintro ⟨h1, h2⟩ h
  rw [G.inn_of h1] at h
  exact h2 h
end Go.Proofs.Ytbohbfggmnjpdaa.Pl
end
-- Tbm
section
namespace Go.Proofs.Ytbohbfggmnjpdaa.Hand
noncomputable section
open Go.RowKit Go.Proofs.Ytbohbfggmnjpdaa.P Go.Proofs.YtbohbfggmnjpdaaW.PrintWords Go.Proofs.YtbohbfggmnjpdaaW.PrintLast Go.Proofs.YtbohbfggmnjpdaaW.PrintMore
def dlog_Table_Base.f (T : TBv) : Option Int := some (T.G.num T.base)
set_option maxRecDepth 100000 in
set_option maxHeartbeats 2000000 in
theorem dlog_Table_Base.calls (b_a0 : Nat) (a0 : TBv) (r : Int) (w : World) (hg0 : TBok w b_a0 a0) (h : dlog_Table_Base.f a0 = some r) :
  Calls Try.prog 53 #[.pointer (some ⟨b_a0, 0, none⟩)] w fun e w' => e = .returned (.int .i64 r) ∧ Below w.heap.size w w' := by
 obtain rfl := Option.some.inj h
 obtain ⟨bg, A2, c2, A3, c3, h1, -⟩ := hg0
 have hc1 : w.cell? ⟨b_a0, 1, none⟩ = some (.int .i64 (a0.G.num a0.base)) := (kC h1 1).trans rfl
 clear h1
 go_enter Try.func53, Try.ntmps53
 go_wp2
 go_ret
 exact ⟨rfl, Below.refl _ _⟩
open Classical in
def tblog (T : TBv) (x : Int) : Int × Int := if T.G.el x = 0 then (0, 7) else ((T.H.lg (T.G.el x) : Int), 0)
def dlog_Table_Log.f (T : TBv) (x : Int) : Option (Int × Int) := some (tblog T x)
set_option maxRecDepth 100000 in
set_option maxHeartbeats 2000000 in
theorem log_zero (tb : Nat) (T : TBv) (x : Int) (hx : ¬ T.G.is x ∨ x = 0) (w : World) (hg : TBok w tb T) :
  Calls Try.prog 28 #[.pointer (some ⟨tb, 0, none⟩), .int .i64 x] w fun e w' => e = .returned (.tuple #[.int .i64 0, .int .i64 7]) ∧ Below w.heap.size w w' := by
 obtain ⟨bg, A2, c2, A3, c3, h1, h2, -⟩ := hg
 have hc0 : w.cell? ⟨tb, 0, none⟩ = some (.pointer (some ⟨bg, 0, none⟩)) := (kC h1 0).trans rfl
 clear h1
 by_cases hb : T.G.is x
 ·have h0 : x = 0 := hx.resolve_left (fun h => h hb)
  subst h0
  have hi := field_GF_Is.calls bg T.G 0 true w h2 (congrArg some (decide_eq_true hb))
  go_enter Try.func28, Try.ntmps28
  go_wp2_with (first | (go_at_call 40; refine hi.mono ?_; clear hi; rintro e w2 ⟨rfl, hb2⟩))
  go_ret2
  exact ⟨rfl, hb2⟩
 ·have hi := field_GF_Is.calls bg T.G x false w h2 (congrArg some (decide_eq_false hb))
  go_enter Try.func28, Try.ntmps28
  go_wp2_with (first | (go_at_call 40; refine hi.mono ?_; clear hi; rintro e w2 ⟨rfl, hb2⟩))
  go_ret2
  exact ⟨rfl, hb2⟩
set_option maxRecDepth 100000 in
set_option maxHeartbeats 2000000 in
theorem log_ok (tb : Nat) (T : TBv) (x : Int) (hb : T.G.is x) (h0 : x ≠ 0) (w : World) (hg : TBok w tb T) :
  Calls Try.prog 28 #[.pointer (some ⟨tb, 0, none⟩), .int .i64 x] w fun e w' => e = .returned (.tuple #[.int .i64 (T.H.lg (T.G.el x) : Int), .int .i64 0]) ∧ Below w.heap.size w w' := by
 have cb : (x == 0) = false := beq_eq_false_iff_ne.2 h0
 obtain ⟨bg, A2, c2, A3, c3, h1, h2, -, -, h5, -⟩ := hg
 have hc0 : w.cell? ⟨tb, 0, none⟩ = some (.pointer (some ⟨bg, 0, none⟩)) := (kC h1 0).trans rfl
 have hc3 : w.cell? ⟨tb, 3, none⟩ = some (.slice A3 T.H.log.length c3) := (kC h1 3).trans rfl
 clear h1
 have p : 0 ≤ x := hb.1
 have q : x < (T.H.log.length : Int) := by rw [T.H.log_length]; exact hb.2
 obtain ⟨ad, e1, hx⟩ := Kd.at_int h5 x p q
 subst e1
 have hrd : rd T.H.log x = (T.H.lg (T.G.el x) : Int) := rd_log T.H hb
 rw [hrd] at hx
 have HX := Q9a.mk hx
 have HC3 := Q9a.mk hc3
 clear hrd hx hc3 h5
 have hi := field_GF_Is.calls bg T.G x true w h2 (congrArg some (decide_eq_true hb))
 clear hb h0 h2
 replace p := eq_true p
 replace q := eq_true q
 go_enter Try.func28, Try.ntmps28
 go_wp2_with (first | (go_at_call 40; refine hi.mono ?_; clear hi; rintro e w2 ⟨rfl, hb2⟩; have hc3 := pw_cell_below hb2 HC3.out; have hx := pw_cell_below hb2 HX.out))
 go_ret2
 exact ⟨rfl, hb2⟩
theorem dlog_Table_Log.calls (b_a0 : Nat) (a0 : TBv) (a1 : Int) (r1 : Int) (r2 : Int) (w : World) (hg0 : TBok w b_a0 a0) (h : dlog_Table_Log.f a0 a1 = some (r1, r2)) :
  Calls Try.prog 28 #[.pointer (some ⟨b_a0, 0, none⟩), .int .i64 a1] w fun e w' => e = .returned (.tuple #[.int .i64 r1, .int .i64 r2]) ∧ Below w.heap.size w w' := by
 classical
 have h' := Option.some.inj h
 unfold tblog at h'
 by_cases hx : a0.G.el a1 = 0
 ·rw [if_pos hx] at h'
  injection h' with e1 e2
  subst e1
  subst e2
  refine log_zero b_a0 a0 a1 ?_ w hg0
  refine Classical.byContradiction fun hn => ?_
  exact Pl.el_ne.2 ⟨Classical.byContradiction fun h => hn (Or.inl h), fun h => hn (Or.inr h)⟩ hx
 ·rw [if_neg hx] at h'
  injection h' with e1 e2
  subst e1
  subst e2
  exact log_ok b_a0 a0 a1 (Pl.el_ne.1 hx).1 (Pl.el_ne.1 hx).2 w hg0
def tbexp (T : TBv) (n : Int) : Int := T.G.num (Cw.pw T.base (n % ((T.G.q - 1 : Nat) : Int)).toNat)
def dlog_Table_Exp.f (T : TBv) (n : Int) : Option Int := some (tbexp T n)
theorem texp_len (T : TBv) : T.H.exp.length = T.G.q - 1 := T.H.exp_length
theorem texp_at (T : TBv) {i : Int} (h0 : 0 ≤ i) (h1 : i < (T.H.exp.length : Int)) : rd T.H.exp i = T.G.num (Cw.pw T.base i.toNat) := by
 obtain ⟨j, rfl⟩ := Int.eq_ofNat_of_zero_le h0
 rw [Int.toNat_natCast]
 rw [texp_len] at h1
 exact rd_exp T.H (by show j < T.G.q - 1; omega)
theorem tmod_pos {n k : Int} (hk : 0 < k) (h : 0 ≤ Int.tmod n k) : n % k = Int.tmod n k := by
 have h1 := Int.tmod_lt_of_pos n hk
 have h2 := Int.mul_tdiv_add_tmod n k
 have h4 : (k * Int.tdiv n k + Int.tmod n k) % k = Int.tmod n k := by rw [Int.mul_add_emod_self_left, Int.emod_eq_of_lt h h1]
 rw [h2] at h4
 exact h4
theorem tmod_neg {n k : Int} (hk : 0 < k) (h : Int.tmod n k < 0) : n % k = Int.tmod n k + k ∧ -k < Int.tmod n k := by
 have h1 : -k < Int.tmod n k := by
  have := Int.lt_tmod_of_pos n hk
  omega
 have h2 := Int.mul_tdiv_add_tmod n k
 refine ⟨?_, h1⟩
 have h3 : n = k * (Int.tdiv n k - 1) + (Int.tmod n k + k) := by rw [Int.mul_sub, Int.mul_one]; omega
 have h4 : (k * (Int.tdiv n k - 1) + (Int.tmod n k + k)) % k = Int.tmod n k + k := by rw [Int.mul_add_emod_self_left, Int.emod_eq_of_lt (by omega) (by omega)]
 rw [← h3] at h4
 exact h4
set_option maxRecDepth 100000 in
set_option maxHeartbeats 2000000 in
theorem dlog_Table_Exp.calls (b_a0 : Nat) (a0 : TBv) (a1 : Int) (r : Int) (w : World) (hg0 : TBok w b_a0 a0) (h : dlog_Table_Exp.f a0 a1 = some r) :
  Calls Try.prog 29 #[.pointer (some ⟨b_a0, 0, none⟩), .int .i64 a1] w fun e w' => e = .returned (.int .i64 r) ∧ Below w.heap.size w w' := by
 obtain rfl := Option.some.inj h
 obtain ⟨bg, A2, c2, A3, c3, h1, -, h3, -, -, -⟩ := hg0
 have hc2 : w.cell? ⟨b_a0, 2, none⟩ = some (.slice A2 a0.H.exp.length c2) := (kC h1 2).trans rfl
 clear h1
 have hq := a0.G.q_le
 have hq2 := a0.G.q_ge
 have hlen := texp_len a0
 obtain ⟨K, hK⟩ : ∃ K : Nat, K = a0.H.exp.length := ⟨_, rfl⟩
 have hK1 : (0 : Int) < (K : Int) := by omega
 have hK2 : (K : Int) ≤ 255 := by omega
 have hKq : ((a0.G.q - 1 : Nat) : Int) = (K : Int) := by rw [hK, hlen]
 have hat := fun (i : Int) (p : 0 ≤ i) (q : i < (K : Int)) => Kd.at_int h3 i p (by rw [← hK]; exact q)
 have hrd := fun (i : Int) (p : 0 ≤ i) (q : i < (K : Int)) => texp_at a0 p (by rw [← hK]; exact q)
 have k0 : ((K : Int) == 0) = false := beq_eq_false_iff_ne.2 (by omega)
 have k1 : ¬ K = 0 := by omega
 replace k1 := eq_false k1
 rw [← hK] at hc2
 obtain ⟨n1, hn1⟩ : ∃ n1 : Int, n1 = Int.tmod a1 (K : Int) := ⟨_, rfl⟩
 by_cases hneg : n1 < 0
 ·have hm := tmod_neg hK1 (by rw [← hn1]; exact hneg)
  rw [← hn1] at hm
  have e2 : wrap64 (n1 + (K : Int)) = n1 + (K : Int) := Pl.w64 (by omega) (by omega)
  have hval : rd a0.H.exp (n1 + (K : Int)) = tbexp a0 a1 := by
   rw [hrd _ (by omega) (by omega)]
   unfold tbexp
   rw [hKq, hm.1]
  obtain ⟨ad, ea, hx⟩ := hat (n1 + (K : Int)) (by omega) (by omega)
  rw [hval] at hx
  subst ea
  have p : 0 ≤ n1 + (K : Int) := by omega
  have q : n1 + (K : Int) < (K : Int) := by omega
  replace p := eq_true p
  replace q := eq_true q
  replace hneg := eq_true hneg
  replace hn1 := hn1.symm
  clear hq hq2 hlen hK hK1 hK2 hKq hat hrd hm hval h3
  go_enter Try.func29, Try.ntmps29
  go_wp2
  go_ret
  exact ⟨rfl, Below.refl _ _⟩
 ·have hm := tmod_pos hK1 (by rw [← hn1]; omega)
  have hlt := Int.tmod_lt_of_pos a1 hK1
  rw [← hn1] at hm hlt
  have hval : rd a0.H.exp n1 = tbexp a0 a1 := by
   rw [hrd _ (by omega) (by omega)]
   unfold tbexp
   rw [hKq, hm]
  obtain ⟨ad, ea, hx⟩ := hat n1 (by omega) (by omega)
  rw [hval] at hx
  subst ea
  have p : 0 ≤ n1 := by omega
  have q : n1 < (K : Int) := by omega
  replace p := eq_true p
  replace q := eq_true q
  replace hneg := eq_false hneg
  replace hn1 := hn1.symm
  clear hq hq2 hlen hK hK1 hK2 hKq hat hrd hm hval h3 hlt
  go_enter Try.func29, Try.ntmps29
  go_wp2
  go_ret
  exact ⟨rfl, Below.refl _ _⟩
theorem tblog_zero (T : TBv) (x : Int) (h : T.G.el x = 0) : tblog T x = (0, 7) := by
 classical
 unfold tblog
 rw [if_pos h]
theorem tblog_ok (T : TBv) (x : Int) (h : T.G.el x ≠ 0) : ∃ a : Nat, a < T.G.q - 1 ∧ Cw.pw T.base a = T.G.el x ∧ tblog T x = ((a : Int), 0) := by
 classical
 have hs := T.H.lg_spec (x := T.G.el x) h
 refine ⟨T.H.lg (T.G.el x), hs.1, hs.2, ?_⟩
 unfold tblog
 rw [if_neg h]
theorem tbexp_nat (T : TBv) (n : Nat) : tbexp T (n : Int) = T.G.num (Cw.pw T.base n) := by
 unfold tbexp
 rw [← Int.natCast_emod, Int.toNat_natCast]
 exact congrArg T.G.num (T.H.pw_mod n)
def dlog_Table_Mul.f (T : TBv) (x y : Int) : Option Int := some (T.G.mul x y)
set_option maxRecDepth 100000 in
set_option maxHeartbeats 2000000 in
theorem dlog_Table_Mul.calls (b_a0 : Nat) (a0 : TBv) (a1 : Int) (a2 : Int) (r : Int) (w : World) (hg0 : TBok w b_a0 a0) (h : dlog_Table_Mul.f a0 a1 a2 = some r) :
  Calls Try.prog 31 #[.pointer (some ⟨b_a0, 0, none⟩), .int .i64 a1, .int .i64 a2] w fun e w' => e = .returned (.int .i64 r) ∧ Below w.heap.size w w' := by
 obtain rfl := Option.some.inj h
 have hq := a0.G.q_le
 by_cases hx : a0.G.el a1 = 0
 ·have l1 := dlog_Table_Log.calls b_a0 a0 a1 0 7 w hg0 (congrArg some (tblog_zero a0 a1 hx))
  have hm : a0.G.mul a1 a2 = 0 := by unfold Cw.GFv.mul; rw [hx, Cw.zero_mul, a0.G.num_zero]
  rw [hm]
  obtain ⟨⟨u, v⟩, huv⟩ : ∃ uv : Int × Int, tblog a0 a2 = uv := ⟨_, rfl⟩
  go_enter Try.func31, Try.ntmps31
  go_wp2_with (first | (go_at_call 28; refine l1.mono ?_; clear l1; rintro e w2 ⟨rfl, hb2⟩; have l2 := dlog_Table_Log.calls b_a0 a0 a2 u v w2 (hg0.below hb2) (congrArg some huv)) | (go_at_call 28; refine l2.mono ?_; clear l2; rintro e w3 ⟨rfl, hb3⟩))
  go_ret
  exact ⟨rfl, hb2.trans (hb3.mono hb2.size)⟩
 obtain ⟨a, ha, hae, hal⟩ := tblog_ok a0 a1 hx
 have l1 := dlog_Table_Log.calls b_a0 a0 a1 (a : Int) 0 w hg0 (congrArg some hal)
 by_cases hy : a0.G.el a2 = 0
 ·have hm : a0.G.mul a1 a2 = 0 := by unfold Cw.GFv.mul; rw [hy, Cw.mul_zero, a0.G.num_zero]
  rw [hm]
  have hz := tblog_zero a0 a2 hy
  go_enter Try.func31, Try.ntmps31
  go_wp2_with (first | (go_at_call 28; refine l1.mono ?_; clear l1; rintro e w2 ⟨rfl, hb2⟩; have l2 := dlog_Table_Log.calls b_a0 a0 a2 0 7 w2 (hg0.below hb2) (congrArg some hz)) | (go_at_call 28; refine l2.mono ?_; clear l2; rintro e w3 ⟨rfl, hb3⟩))
  go_ret
  exact ⟨rfl, hb2.trans (hb3.mono hb2.size)⟩
 obtain ⟨b, hb, hbe, hbl⟩ := tblog_ok a0 a2 hy
 have hm : tbexp a0 ((a : Int) + (b : Int)) = a0.G.mul a1 a2 := by
  rw [← Int.natCast_add, tbexp_nat, Cw.pw_add, hae, hbe]; rfl
 have hw : wrap64 ((a : Int) + (b : Int)) = (a : Int) + (b : Int) := Pl.w64 (by omega) (by omega)
 have HM := Q9a.mk hm
 clear hm ha hae hb hbe hq
 go_enter Try.func31, Try.ntmps31
 go_wp2_with (first | (go_at_call 28; refine l1.mono ?_; clear l1; rintro e w2 ⟨rfl, hb2⟩; have l2 := dlog_Table_Log.calls b_a0 a0 a2 (b : Int) 0 w2 (hg0.below hb2) (congrArg some hbl)) | (go_at_call 28; refine l2.mono ?_; clear l2; rintro e w3 ⟨rfl, hb3⟩; have l3 := dlog_Table_Exp.calls b_a0 a0 ((a : Int) + (b : Int)) _ w3 ((hg0.below hb2).below hb3) (congrArg some HM.out)) | (go_at_call 29; refine l3.mono ?_; clear l3; rintro e w4 ⟨rfl, hb4⟩))
 go_ret
 exact ⟨rfl, (hb2.trans (hb3.mono hb2.size)).trans (hb4.mono (Nat.le_trans hb2.size hb3.size))⟩
end
end Go.Proofs.Ytbohbfggmnjpdaa.Hand
end
