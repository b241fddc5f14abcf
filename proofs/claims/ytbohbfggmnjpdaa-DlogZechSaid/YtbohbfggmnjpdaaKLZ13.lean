/- What dlogZech_holds needs: texts Q5, Tbm, put together. -/
import Derived.Test.YtbohbfggmnjpdaaKLZ12
import Derived.Laws.CopyOwn
import Derived.Lib.LazyBuf
set_option linter.unusedVariables false
set_option linter.unusedSimpArgs false
-- Q5
section
namespace Go.Proofs.Ytbohbfggmnjpdaa.Pl
open Go.RowKit Go.Proofs.Ytbohbfggmnjpdaa.P Go.Proofs.Ytbohbfggmnjpdaa.Hand Go.Proofs.YtbohbfggmnjpdaaW.PrintWords
variable {G : GFv} {P M : Int} {mod : List Int}
open Classical in
noncomputable def solveR (G : GFv) (b x : Int) : Int × Int := if G.el b = 0 ∨ G.el x = 0 then (0, 7) else solveV G b x
theorem el_ne {G : GFv} {x : Int} : G.el x ≠ 0 ↔ G.is x ∧ x ≠ 0 := by
 rw [ne_eq, G.el_eq_zero]
 constructor
 ·intro h
  have h1 : G.is x := Classical.byContradiction fun hn => h (by unfold Cw.GFv.inn; rw [if_neg hn])
  exact ⟨h1, fun h0 => h (by rw [G.inn_of h1]; exact h0)⟩
 ·rintro ⟨h1, h2⟩ h
  rw [G.inn_of h1] at h
  exact h2 h
theorem refSolve_loop (h : Is G P M mod) (b x : Int) {o : Nat} (ho : Cw.IsOrd (G.el b) o) : ∀ e n, n + e = G.q → (∀ t, t < n → Cw.pw (G.el b) t ≠ G.el x) → Ev (fun k => r8Solve.l0 k (G.inn b) (G.inn x) (G.num (Cw.pw (G.el b) n)) (n : Int) P M mod) (solveV G b x) := by
 intro e
 have hq := G.q_le
 have hlt := ord_lt G ho
 have hq2 := G.q_ge
 induction e with
 | zero =>
  intro n hn hno
  obtain rfl : n = G.q := by omega
  have hs : solveV G b x = (0, 11) := solveV_none (fun s hs => by
   have hm := Nat.mod_lt s ho.1
   refine hno (s % o) (by omega) ?_
   rw [← hs]
   have e1 : Cw.pw (G.el b) s = Cw.pw (G.el b) (o * (s / o) + s % o) := by rw [Nat.div_add_mod]
   rw [e1, Cw.pw_add, Cw.pw_mul, ho.pow_one, Cw.one_pw, Cw.one_mul])
  rw [hs]
  exact Ev.step (fun k => by simp only [r8Solve.l0]; rfl) (Ev.bind (is_order04 h) (Ev.congr (fun k => if_neg (Int.lt_irrefl _)) (Ev.now _)))
 | succ e ih =>
  intro n hn hno
  have hc : (n : Int) < (G.q : Int) := by omega
  have hne : n + 1 + e = G.q := by omega
  have hn1 : wrap64 ((n : Int) + 1) = ((n + 1 : Nat) : Int) := by rw [Pl.w64 (by omega) (by omega)]; rfl
  refine Ev.step (fun k => by simp only [r8Solve.l0]; rfl) (Ev.bind (is_order04 h) (Ev.congr (fun k => if_pos hc) ?_))
  by_cases he : Cw.pw (G.el b) n = G.el x
  ·rw [solveV_found he hno]
   exact Ev.congr (fun k => if_pos (by rw [he, G.num_el])) (Ev.now _)
  ·have hne' : ¬ G.num (Cw.pw (G.el b) n) = G.inn x := by
    rw [← G.num_el]
    exact fun h => he (G.num_inj h)
   have hm := is_mul h (G.num (Cw.pw (G.el b) n)) (G.inn b)
   have e1 : G.mul (G.num (Cw.pw (G.el b) n)) (G.inn b) = G.num (Cw.pw (G.el b) (n + 1)) := by
    unfold Cw.GFv.mul
    rw [G.el_num, G.el_inn, Cw.pw_succ]
   rw [e1] at hm
   refine Ev.congr (fun k => if_neg hne') (Ev.bind hm ?_)
   rw [hn1]
   refine ih (n + 1) hne (fun t ht => ?_)
   by_cases htn : t = n
   ·rw [htn]; exact he
   ·exact hno t (Nat.lt_of_le_of_ne (Nat.le_of_lt_succ ht) htn)
theorem refSolve (h : Is G P M mod) (b x : Int) : Ev (fun k => r8Solve.f k P M mod b x) (solveR G b x) := by
 classical
 have bad : Ev (fun k => r8Solve.j0 k (G.inn b) (G.inn x) true P M mod) (0, 7) := by
  refine Ev.step (f := fun _ => some _) (fun k => ?_) (Ev.now _)
  simp only [r8Solve.j0]
  rfl
 unfold solveR
 refine Ev.bind (is_in h b) (Ev.bind (is_in h x) ?_)
 by_cases hb : G.el b = 0
 ·rw [if_pos (Or.inl hb)]
  exact Ev.congr (fun k => if_pos (G.el_eq_zero.1 hb)) bad
 refine Ev.congr (fun k => if_neg (fun h => hb (G.el_eq_zero.2 h))) ?_
 by_cases hx : G.el x = 0
 ·rw [if_pos (Or.inr hx), show (G.inn x == 0) = true from beq_iff_eq.2 (G.el_eq_zero.1 hx)]
  exact bad
 rw [if_neg (fun h => h.elim hb hx), show (G.inn x == 0) = false from beq_eq_false_iff_ne.2 (fun h => hx (G.el_eq_zero.2 h))]
 obtain ⟨o, ho⟩ := Cw.ord_ex hb
 have hl := refSolve_loop h b x ho G.q 0 (by omega) (fun t ht => by omega)
 rw [Cw.pw_zero, G.num_one] at hl
 exact Ev.step (fun k => by simp only [r8Solve.j0]; rw [if_neg Bool.false_ne_true]; rfl) hl
end Go.Proofs.Ytbohbfggmnjpdaa.Pl
end
-- Tbm
section
namespace Go.Proofs.Ytbohbfggmnjpdaa.Hand
noncomputable section
open Go.RowKit Go.Proofs.Ytbohbfggmnjpdaa.P Go.Proofs.YtbohbfggmnjpdaaW.PrintWords Go.Proofs.YtbohbfggmnjpdaaW.PrintLast Go.Proofs.YtbohbfggmnjpdaaW.PrintMore
def dlog_Table_Base.f (T : TBv) : Option Int := some (T.G.num T.base)
set_option maxRecDepth 100000 in
set_option maxHeartbeats 2000000 in
theorem dlog_Table_Base.calls (b_a0 : Nat) (a0 : TBv) (r : Int) (w : World) (hg0 : TBok w b_a0 a0) (h : dlog_Table_Base.f a0 = some r) :
  Calls Try.prog 53 #[.pointer (some ⟨b_a0, 0, none⟩)] w fun e w' => e = .returned (.int .i64 r) ∧ Below w.heap.size w w' := by
 obtain rfl := Option.some.inj h
 obtain ⟨bg, A2, c2, A3, c3, h1, -⟩ := hg0
 have hc1 : w.cell? ⟨b_a0, 1, none⟩ = some (.int .i64 (a0.G.num a0.base)) := (kC h1 1).trans rfl
 clear h1
 go_enter Try.func53, Try.ntmps53
 go_wp2
 go_ret
 exact ⟨rfl, Below.refl _ _⟩
open Classical in
def tblog (T : TBv) (x : Int) : Int × Int := if T.G.el x = 0 then (0, 7) else ((T.H.lg (T.G.el x) : Int), 0)
def dlog_Table_Log.f (T : TBv) (x : Int) : Option (Int × Int) := some (tblog T x)
set_option maxRecDepth 100000 in
set_option maxHeartbeats 2000000 in
theorem log_zero (tb : Nat) (T : TBv) (x : Int) (hx : ¬ T.G.is x ∨ x = 0) (w : World) (hg : TBok w tb T) :
  Calls Try.prog 28 #[.pointer (some ⟨tb, 0, none⟩), .int .i64 x] w fun e w' => e = .returned (.tuple #[.int .i64 0, .int .i64 7]) ∧ Below w.heap.size w w' := by
 obtain ⟨bg, A2, c2, A3, c3, h1, h2, -⟩ := hg
 have hc0 : w.cell? ⟨tb, 0, none⟩ = some (.pointer (some ⟨bg, 0, none⟩)) := (kC h1 0).trans rfl
 clear h1
 by_cases hb : T.G.is x
 ·have h0 : x = 0 := hx.resolve_left (fun h => h hb)
  subst h0
  have hi := field_GF_Is.calls bg T.G 0 true w h2 (congrArg some (decide_eq_true hb))
  go_enter Try.func28, Try.ntmps28
  go_wp2_with (first | (go_at_call 40; refine hi.mono ?_; clear hi; rintro e w2 ⟨rfl, hb2⟩))
  go_ret2
  exact ⟨rfl, hb2⟩
 ·have hi := field_GF_Is.calls bg T.G x false w h2 (congrArg some (decide_eq_false hb))
  go_enter Try.func28, Try.ntmps28
  go_wp2_with (first | (go_at_call 40; refine hi.mono ?_; clear hi; rintro e w2 ⟨rfl, hb2⟩))
  go_ret2
  exact ⟨rfl, hb2⟩
set_option maxRecDepth 100000 in
set_option maxHeartbeats 2000000 in
theorem log_ok (tb : Nat) (T : TBv) (x : Int) (hb : T.G.is x) (h0 : x ≠ 0) (w : World) (hg : TBok w tb T) :
  Calls Try.prog 28 #[.pointer (some ⟨tb, 0, none⟩), .int .i64 x] w fun e w' => e = .returned (.tuple #[.int .i64 (T.H.lg (T.G.el x) : Int), .int .i64 0]) ∧ Below w.heap.size w w' := by
 have cb : (x == 0) = false := beq_eq_false_iff_ne.2 h0
 obtain ⟨bg, A2, c2, A3, c3, h1, h2, -, -, h5, -⟩ := hg
 have hc0 : w.cell? ⟨tb, 0, none⟩ = some (.pointer (some ⟨bg, 0, none⟩)) := (kC h1 0).trans rfl
 have hc3 : w.cell? ⟨tb, 3, none⟩ = some (.slice A3 T.H.log.length c3) := (kC h1 3).trans rfl
 clear h1
 have p : 0 ≤ x := hb.1
 have q : x < (T.H.log.length : Int) := by rw [T.H.log_length]; exact hb.2
 obtain ⟨ad, e1, hx⟩ := Kd.at_int h5 x p q
 subst e1
 have hrd : rd T.H.log x = (T.H.lg (T.G.el x) : Int) := rd_log T.H hb
 rw [hrd] at hx
 have HX := Q9a.mk hx
 have HC3 := Q9a.mk hc3
 clear hrd hx hc3 h5
 have hi := field_GF_Is.calls bg T.G x true w h2 (congrArg some (decide_eq_true hb))
 clear hb h0 h2
 replace p := eq_true p
 replace q := eq_true q
 go_enter Try.func28, Try.ntmps28
 go_wp2_with (first | (go_at_call 40; refine hi.mono ?_; clear hi; rintro e w2 ⟨rfl, hb2⟩; have hc3 := pw_cell_below hb2 HC3.out; have hx := pw_cell_below hb2 HX.out))
 go_ret2
 exact ⟨rfl, hb2⟩
theorem dlog_Table_Log.calls (b_a0 : Nat) (a0 : TBv) (a1 : Int) (r1 : Int) (r2 : Int) (w : World) (hg0 : TBok w b_a0 a0) (h : dlog_Table_Log.f a0 a1 = some (r1, r2)) :
  Calls Try.prog 28 #[.pointer (some ⟨b_a0, 0, none⟩), .int .i64 a1] w fun e w' => e = .returned (.tuple #[.int .i64 r1, .int .i64 r2]) ∧ Below w.heap.size w w' := by
 classical
 have h' := Option.some.inj h
 unfold tblog at h'
 by_cases hx : a0.G.el a1 = 0
 ·rw [if_pos hx] at h'
  injection h' with e1 e2
  subst e1
  subst e2
  refine log_zero b_a0 a0 a1 ?_ w hg0
  refine Classical.byContradiction fun hn => ?_
  exact Pl.el_ne.2 ⟨Classical.byContradiction fun h => hn (Or.inl h), fun h => hn (Or.inr h)⟩ hx
 ·rw [if_neg hx] at h'
  injection h' with e1 e2
  subst e1
  subst e2
  exact log_ok b_a0 a0 a1 (Pl.el_ne.1 hx).1 (Pl.el_ne.1 hx).2 w hg0
def tbexp (T : TBv) (n : Int) : Int := T.G.num (Cw.pw T.base (n % ((T.G.q - 1 : Nat) : Int)).toNat)
def dlog_Table_Exp.f (T : TBv) (n : Int) : Option Int := some (tbexp T n)
theorem texp_len (T : TBv) : T.H.exp.length = T.G.q - 1 := T.H.exp_length
theorem texp_at (T : TBv) {i : Int} (h0 : 0 ≤ i) (h1 : i < (T.H.exp.length : Int)) : rd T.H.exp i = T.G.num (Cw.pw T.base i.toNat) := by
 obtain ⟨j, rfl⟩ := Int.eq_ofNat_of_zero_le h0
 rw [Int.toNat_natCast]
 rw [texp_len] at h1
 exact rd_exp T.H (by show j < T.G.q - 1; omega)
theorem tmod_pos {n k : Int} (hk : 0 < k) (h : 0 ≤ Int.tmod n k) : n % k = Int.tmod n k := by
 have h1 := Int.tmod_lt_of_pos n hk
 have h2 := Int.mul_tdiv_add_tmod n k
 have h4 : (k * Int.tdiv n k + Int.tmod n k) % k = Int.tmod n k := by rw [Int.mul_add_emod_self_left, Int.emod_eq_of_lt h h1]
 rw [h2] at h4
 exact h4
theorem tmod_neg {n k : Int} (hk : 0 < k) (h : Int.tmod n k < 0) : n % k = Int.tmod n k + k ∧ -k < Int.tmod n k := by
 have h1 : -k < Int.tmod n k := by
  have := Int.lt_tmod_of_pos n hk
  omega
 have h2 := Int.mul_tdiv_add_tmod n k
 refine ⟨?_, h1⟩
 have h3 : n = k * (Int.tdiv n k - 1) + (Int.tmod n k + k) := by rw [Int.mul_sub, Int.mul_one]; omega
 have h4 : (k * (Int.tdiv n k - 1) + (Int.tmod n k + k)) % k = Int.tmod n k + k := by rw [Int.mul_add_emod_self_left, Int.emod_eq_of_lt (by omega) (by omega)]
 rw [← h3] at h4
 exact h4
set_option maxRecDepth 100000 in
set_option maxHeartbeats 2000000 in
theorem dlog_Table_Exp.calls (b_a0 : Nat) (a0 : TBv) (a1 : Int) (r : Int) (w : World) (hg0 : TBok w b_a0 a0) (h : dlog_Table_Exp.f a0 a1 = some r) :
  Calls Try.prog 29 #[.pointer (some ⟨b_a0, 0, none⟩), .int .i64 a1] w fun e w' => e = .returned (.int .i64 r) ∧ Below w.heap.size w w' := by
 obtain rfl := Option.some.inj h
 obtain ⟨bg, A2, c2, A3, c3, h1, -, h3, -, -, -⟩ := hg0
 have hc2 : w.cell? ⟨b_a0, 2, none⟩ = some (.slice A2 a0.H.exp.length c2) := (kC h1 2).trans rfl
 clear h1
 have hq := a0.G.q_le
 have hq2 := a0.G.q_ge
 have hlen := texp_len a0
 obtain ⟨K, hK⟩ : ∃ K : Nat, K = a0.H.exp.length := ⟨_, rfl⟩
 have hK1 : (0 : Int) < (K : Int) := by omega
 have hK2 : (K : Int) ≤ 255 := by omega
 have hKq : ((a0.G.q - 1 : Nat) : Int) = (K : Int) := by rw [hK, hlen]
 have hat := fun (i : Int) (p : 0 ≤ i) (q : i < (K : Int)) => Kd.at_int h3 i p (by rw [← hK]; exact q)
 have hrd := fun (i : Int) (p : 0 ≤ i) (q : i < (K : Int)) => texp_at a0 p (by rw [← hK]; exact q)
 have k0 : ((K : Int) == 0) = false := beq_eq_false_iff_ne.2 (by omega)
 have k1 : ¬ K = 0 := by omega
 replace k1 := eq_false k1
 rw [← hK] at hc2
 obtain ⟨n1, hn1⟩ : ∃ n1 : Int, n1 = Int.tmod a1 (K : Int) := ⟨_, rfl⟩
 by_cases hneg : n1 < 0
 ·have hm := tmod_neg hK1 (by rw [← hn1]; exact hneg)
  rw [← hn1] at hm
  have e2 : wrap64 (n1 + (K : Int)) = n1 + (K : Int) := Pl.w64 (by omega) (by omega)
  have hval : rd a0.H.exp (n1 + (K : Int)) = tbexp a0 a1 := by
   rw [hrd _ (by omega) (by omega)]
   unfold tbexp
   rw [hKq, hm.1]
  obtain ⟨ad, ea, hx⟩ := hat (n1 + (K : Int)) (by omega) (by omega)
  rw [hval] at hx
  subst ea
  have p : 0 ≤ n1 + (K : Int) := by omega
  have q : n1 + (K : Int) < (K : Int) := by omega
  replace p := eq_true p
  replace q := eq_true q
  replace hneg := eq_true hneg
  replace hn1 := hn1.symm
  clear hq hq2 hlen hK hK1 hK2 hKq hat hrd hm hval h3
  go_enter Try.func29, Try.ntmps29
  go_wp2
  go_ret
  exact ⟨rfl, Below.refl _ _⟩
 ·have hm := tmod_pos hK1 (by rw [← hn1]; omega)
  have hlt := Int.tmod_lt_of_pos a1 hK1
  rw [← hn1] at hm hlt
  have hval : rd a0.H.exp n1 = tbexp a0 a1 := by
   rw [hrd _ (by omega) (by omega)]
   unfold tbexp
   rw [hKq, hm]
  obtain ⟨ad, ea, hx⟩ := hat n1 (by omega) (by omega)
  rw [hval] at hx
  subst ea
  have p : 0 ≤ n1 := by omega
  have q : n1 < (K : Int) := by omega
  replace p := eq_true p
  replace q := eq_true q
  replace hneg := eq_false hneg
  replace hn1 := hn1.symm
  clear hq hq2 hlen hK hK1 hK2 hKq hat hrd hm hval h3 hlt
  go_enter Try.func29, Try.ntmps29
  go_wp2
  go_ret
  exact ⟨rfl, Below.refl _ _⟩
def dlog_Table_Zech.T1 : Bool × List (List Nat × List Nat) := (true, [([], []), ([], []), ([1], [1]), ([2], [2]), ([3], [3]), ([], []), ([], []), ([5, 6], [5, 6]), ([4, 7, 7], [4, 7]), ([0, 8, 8], [0, 8]), ([9], [9]), ([9], [9]), ([10, 9, 0, 1, 2, 3, 4, 5, 6, 7, 8, 9, 10, 11], [10]), ([11, 12, 0, 1, 2, 3, 4, 5, 6, 7, 8, 9, 10, 11, 12], [11])])
def dlog_Table_Zech.B1 : List Nat := [0, 0, 2, 6, 14, 0, 0, 96, 254, 511, 1023, 1023, 4095, 8191]
theorem dlog_Table_Zech.tab1 : rtab .any (opsOf Try.f34 1) = dlog_Table_Zech.T1 := by kernel_rfl
theorem dlog_Table_Zech.bits1 : waitsOk dlog_Table_Zech.T1.2 dlog_Table_Zech.B1 = true := by kernel_rfl
def dlog_Table_Zech.f (T : TBv) (n : Int) : Option (Int × Int) := some (tblog T (T.G.add 1 (tbexp T n)))
set_option maxRecDepth 100000 in
set_option maxHeartbeats 4000000 in
theorem zech_walk (tb : Nat) (T : TBv) (n r1 r2 : Int) (hr : tblog T (T.G.add 1 (tbexp T n)) = (r1, r2)) (w : World) (hg : TBok w tb T) :
  Calls Try.prog 34 #[.pointer (some ⟨tb, 0, none⟩), .int .i64 n] w fun e w' => e = .returned (.tuple #[.int .i64 r1, .int .i64 r2]) ∧ Below w.heap.size w w' := by
 obtain ⟨E, hE⟩ : ∃ E, tbexp T n = E := ⟨_, rfl⟩
 rw [hE] at hr
 obtain ⟨a, ha⟩ : ∃ a, T.G.add 1 E = a := ⟨_, rfl⟩
 rw [ha] at hr
 have HE := Q9a.mk (show dlog_Table_Exp.f T n = some E from congrArg some hE)
 have HA := Q9a.mk (show field_GF_Add.f T.G 1 E = some a from congrArg some ha)
 have HR := Q9a.mk (show dlog_Table_Log.f T a = some (r1, r2) from congrArg some hr)
 clear hE ha hr
 have hg1 := hg
 obtain ⟨bg, A2, c2, A3, c3, h1, h2, -⟩ := hg1
 have HC0 := Q9a.mk (show w.cell? ⟨tb, 0, none⟩ = some (.pointer (some ⟨bg, 0, none⟩)) from (kC h1 0).trans rfl)
 have HC0' := Q9a.mk (show w.drew.cell? ⟨tb, 0, none⟩ = some (.pointer (some ⟨bg, 0, none⟩)) from HC0.out)
 have HG := Q9a.mk h2
 have HB := Q9a.mk (bD (Below.refl w.heap.size w))
 clear h1 h2
 go_enter Try.func34, Try.ntmps34
 go_upto_region 1 with (fail)
 refine start_ (n := 14) (S := fun w' => w'.cell? ⟨tb, 0, none⟩ = some (.pointer (some ⟨bg, 0, none⟩))) (ds := []) #[false, false, false, false, false, false, false, false, false, false, false, false, false, false] (by kernel_rfl) rfl rfl HC0'.out (fun hHeld => ?_); refine with_tabW dlog_Table_Zech.tab1 dlog_Table_Zech.bits1 (fun HT_ HW_ => ?_)
 refine pure_ (i := 0) (N := some 6) (v := ?_) (a' := ?_) #[true, false, false, false, false, false, false, false, false, false, false, false, false, false] rfl rfl (any_of HT_.out (by kernel_rfl)) (fun _ _ _ h => h) (Or.inl ⟨by rfl, ?_⟩) ?_ ?_
 rotate_left
 ·intro w'
  go_simp
  with_reducible rfl
 rotate_left
 ·simp only [Act.put, sz1, sz2, sz3, i64_w, i32_w]
  rfl
 refine pure_ (i := 1) (N := some 7) (v := ?_) (a' := ?_) #[true, true, false, false, false, false, false, false, false, false, false, false, false, false] rfl rfl (any_of HT_.out (by kernel_rfl)) (fun _ _ _ h => h) (Or.inl ⟨by rfl, ?_⟩) ?_ ?_
 rotate_left
 ·intro w'
  go_simp
  with_reducible rfl
 rotate_left
 ·simp only [Act.put, sz1, sz2, sz3, i64_w, i32_w]
  rfl
 refine pure_ (i := 2) (N := some 8) (v := ?_) (a' := ?_) #[true, true, true, false, false, false, false, false, false, false, false, false, false, false] rfl rfl (any_of HT_.out (by kernel_rfl)) (fun _ _ _ h => h) (Or.inl ⟨by rfl, ?_⟩) ?_ ?_
 rotate_left
 ·intro w'
  go_simp
  with_reducible rfl
 rotate_left
 ·simp only [Act.put, sz1, sz2, sz3, i64_w, i32_w]
  rfl
 refine pure_ (i := 3) (N := some 9) (v := ?_) (a' := ?_) #[true, true, true, true, false, false, false, false, false, false, false, false, false, false] rfl rfl (any_of HT_.out (by kernel_rfl)) (fun _ _ _ h => h) (Or.inl ⟨by rfl, ?_⟩) ?_ ?_
 rotate_left
 ·intro w'
  go_simp
  with_reducible rfl
 rotate_left
 ·simp only [Act.put, sz1, sz2, sz3, i64_w, i32_w]
  rfl
 refine pure_ (i := 5) (N := some 11) (v := ?_) (a' := ?_) #[true, true, true, true, false, true, false, false, false, false, false, false, false, false] rfl rfl (any_of HT_.out (by kernel_rfl)) (fun _ _ _ h => h) (Or.inl ⟨by rfl, ?_⟩) ?_ ?_
 rotate_left
 ·intro w'
  go_simp
  with_reducible rfl
 rotate_left
 ·simp only [Act.put, sz1, sz2, sz3, i64_w, i32_w]
  rfl
 refine pure_ (i := 6) (N := some 12) (v := ?_) (a' := ?_) #[true, true, true, true, false, true, true, false, false, false, false, false, false, false] rfl rfl (any_of HT_.out (by kernel_rfl)) (fun _ _ _ h => h) (Or.inl ⟨by rfl, ?_⟩) ?_ ?_
 rotate_left
 ·intro w'
  go_simp
  with_reducible rfl
 rotate_left
 ·simp only [Act.put, sz1, sz2, sz3, i64_w, i32_w]
  rfl
 refine take_ (i := 4) (N := some 10) (v := ?_) (a' := ?_) #[true, true, true, true, true, true, true, false, false, false, false, false, false, false] rfl rfl (take_ofW HT_.out HW_.out (by kernel_rfl)) (fun _ _ _ h => h) (Or.inl ⟨by rfl, ?_⟩) hHeld ?_ ?_
 rotate_left
 ·rintro w' s0
  go_simp
  with_reducible rfl
 rotate_left
 ·simp only [Act.put, sz1, sz2, sz3, i64_w, i32_w]
  rfl
 refine one_ (i := 7) (N := some 13) #[true, true, true, true, true, true, true, true, false, false, false, false, false, false] rfl rfl (one_of HT_.out (by kernel_rfl)) (by decide) (fun K hK => ?_)
 refine goes_ Try.func29 (by kernel_rfl) rfl #[.pointer (some ⟨tb, 0, none⟩), .int .i64 n] (by rfl) rfl rfl (by (try simp only [List.map_toArray, List.map_cons, List.map_nil]); first | done | rfl | (simp only [List.length_drop, List.length_take]; rfl)) ?_
 with_reducible refine (dlog_Table_Exp.calls tb T n E _ (hg.below HB.out) HE.out).mono ?_
 rintro e w2 ⟨rfl, hb_⟩
 refine ⟨_, rfl, ?_⟩
 have nb_ := Q9a.mk (bP HB.out hb_)
 clear HB
 have HB := nb_
 clear nb_ hb_
 refine hK.out _ _ (pw_cell_below HB.out HC0.out) (fun hHeld => ?_)
 clear hK K
 refine norm_ (a' := ?_) ?_ ?_
 rotate_left
 ·show Act.put _ (some 13) _ = _
  simp only [Act.put, sz1, sz2, sz3, i64_w, i32_w]
  rfl
 refine one_ (i := 8) (N := some 14) #[true, true, true, true, true, true, true, true, true, false, false, false, false, false] rfl rfl (one_of HT_.out (by kernel_rfl)) (by decide) (fun K hK => ?_)
 refine goes_ Try.func56 (by kernel_rfl) rfl #[.pointer (some ⟨bg, 0, none⟩), .int .i64 1, .int .i64 E] (by rfl) rfl rfl (by (try simp only [List.map_toArray, List.map_cons, List.map_nil]); first | done | rfl | (simp only [List.length_drop, List.length_take]; rfl)) ?_
 with_reducible refine (field_GF_Add.calls bg T.G 1 E a _ (HG.out.below HB.out) HA.out).mono ?_
 rintro e w3 ⟨rfl, hb_⟩
 refine ⟨_, rfl, ?_⟩
 have nb_ := Q9a.mk (bP HB.out hb_)
 clear HB
 have HB := nb_
 clear nb_ hb_
 refine hK.out _ _ (pw_cell_below HB.out HC0.out) (fun hHeld => ?_)
 clear hK K
 refine norm_ (a' := ?_) ?_ ?_
 rotate_left
 ·show Act.put _ (some 14) _ = _
  simp only [Act.put, sz1, sz2, sz3, i64_w, i32_w]
  rfl
 refine one_ (i := 9) (N := some 15) #[true, true, true, true, true, true, true, true, true, true, false, false, false, false] rfl rfl (one_of HT_.out (by kernel_rfl)) (by decide) (fun K hK => ?_)
 refine goes_ Try.func28 (by kernel_rfl) rfl #[.pointer (some ⟨tb, 0, none⟩), .int .i64 a] (by rfl) rfl rfl (by (try simp only [List.map_toArray, List.map_cons, List.map_nil]); first | done | rfl | (simp only [List.length_drop, List.length_take]; rfl)) ?_
 with_reducible refine (dlog_Table_Log.calls tb T a r1 r2 _ (hg.below HB.out) HR.out).mono ?_
 rintro e w4 ⟨rfl, hb_⟩
 refine ⟨_, rfl, ?_⟩
 have nb_ := Q9a.mk (bP HB.out hb_)
 clear HB
 have HB := nb_
 clear nb_ hb_
 refine hK.out _ _ (pw_cell_below HB.out HC0.out) (fun hHeld => ?_)
 clear hK K
 refine norm_ (a' := ?_) ?_ ?_
 rotate_left
 ·show Act.put _ (some 15) _ = _
  simp only [Act.put, sz1, sz2, sz3, i64_w, i32_w]
  rfl
 refine pure_ (i := 10) (N := some 16) (v := ?_) (a' := ?_) #[true, true, true, true, true, true, true, true, true, true, true, false, false, false] rfl rfl (any_of HT_.out (by kernel_rfl)) (fun _ _ _ h => h) (Or.inl ⟨by rfl, ?_⟩) ?_ ?_
 rotate_left
 ·intro w'
  go_simp
  with_reducible rfl
 rotate_left
 ·simp only [Act.put, sz1, sz2, sz3, i64_w, i32_w]
  rfl
 refine pure_ (i := 11) (N := some 17) (v := ?_) (a' := ?_) #[true, true, true, true, true, true, true, true, true, true, true, true, false, false] rfl rfl (any_of HT_.out (by kernel_rfl)) (fun _ _ _ h => h) (Or.inl ⟨by rfl, ?_⟩) ?_ ?_
 rotate_left
 ·intro w'
  go_simp
  with_reducible rfl
 rotate_left
 ·simp only [Act.put, sz1, sz2, sz3, i64_w, i32_w]
  rfl
 refine pure_ (i := 12) (N := some 4) (v := ?_) (a' := ?_) #[true, true, true, true, true, true, true, true, true, true, true, true, true, false] rfl rfl (any_of HT_.out (by kernel_rfl)) (fun _ _ _ h => h) (Or.inl ⟨by rfl, ?_⟩) ?_ ?_
 rotate_left
 ·intro w'
  go_simp
  with_reducible rfl
 rotate_left
 ·simp only [Act.put, sz1, sz2, sz3, i64_w, i32_w]
  rfl
 refine pure_ (i := 13) (N := some 5) (v := ?_) (a' := ?_) #[true, true, true, true, true, true, true, true, true, true, true, true, true, true] rfl rfl (any_of HT_.out (by kernel_rfl)) (fun _ _ _ h => h) (Or.inl ⟨by rfl, ?_⟩) ?_ ?_
 rotate_left
 ·intro w'
  go_simp
  with_reducible rfl
 rotate_left
 ·simp only [Act.put, sz1, sz2, sz3, i64_w, i32_w]
  rfl
 refine done_ (done_of HT_.out (by kernel_rfl)) ?_
 go_wp2
 go_ret2
 exact ⟨rfl, HB.out⟩
theorem dlog_Table_Zech.calls (b_a0 : Nat) (a0 : TBv) (a1 : Int) (r1 : Int) (r2 : Int) (w : World) (hg0 : TBok w b_a0 a0) (h : dlog_Table_Zech.f a0 a1 = some (r1, r2)) :
  Calls Try.prog 34 #[.pointer (some ⟨b_a0, 0, none⟩), .int .i64 a1] w fun e w' => e = .returned (.tuple #[.int .i64 r1, .int .i64 r2]) ∧ Below w.heap.size w w' := by
 have h' := Option.some.inj h
 exact zech_walk b_a0 a0 a1 r1 r2 h' w hg0
theorem tblog_zero (T : TBv) (x : Int) (h : T.G.el x = 0) : tblog T x = (0, 7) := by
 classical
 unfold tblog
 rw [if_pos h]
theorem tblog_ok (T : TBv) (x : Int) (h : T.G.el x ≠ 0) : ∃ a : Nat, a < T.G.q - 1 ∧ Cw.pw T.base a = T.G.el x ∧ tblog T x = ((a : Int), 0) := by
 classical
 have hs := T.H.lg_spec (x := T.G.el x) h
 refine ⟨T.H.lg (T.G.el x), hs.1, hs.2, ?_⟩
 unfold tblog
 rw [if_neg h]
theorem tbexp_nat (T : TBv) (n : Nat) : tbexp T (n : Int) = T.G.num (Cw.pw T.base n) := by
 unfold tbexp
 rw [← Int.natCast_emod, Int.toNat_natCast]
 exact congrArg T.G.num (T.H.pw_mod n)
theorem tbexp_diff (T : TBv) (a b : Nat) : Cw.pw T.base a * T.G.el (tbexp T ((b : Int) - (a : Int))) = Cw.pw T.base b := by
 have hq2 := T.G.q_ge
 unfold tbexp
 rw [T.G.el_num, ← Cw.pw_add]
 have h0 := Int.emod_nonneg ((b : Int) - (a : Int)) (show ((T.G.q - 1 : Nat) : Int) ≠ 0 by omega)
 obtain ⟨t, ht⟩ := Int.eq_ofNat_of_zero_le h0
 rw [ht]
 have e : (a + t) % (T.G.q - 1) = b % (T.G.q - 1) := by
  have h1 : (((a + t : Nat) : Int)) % ((T.G.q - 1 : Nat) : Int) = (b : Int) % ((T.G.q - 1 : Nat) : Int) := by
   have h2 := Int.mul_ediv_add_emod ((b : Int) - (a : Int)) ((T.G.q - 1 : Nat) : Int)
   rw [ht] at h2
   have h3 : ((a + t : Nat) : Int) = (b : Int) + ((T.G.q - 1 : Nat) : Int) * (-(((b : Int) - (a : Int)) / ((T.G.q - 1 : Nat) : Int))) := by
    rw [Int.mul_neg]; push_cast; push_cast at h2; omega
   rw [h3, Int.add_mul_emod_self_left]
  rw [← Int.natCast_emod, ← Int.natCast_emod] at h1
  exact Int.ofNat.inj h1
 have h1 := T.H.pw_mod (a + t)
 have h2 := T.H.pw_mod b
 have e2 : Cw.pw T.base (a + t) = Cw.pw T.base b := h1.symm.trans ((congrArg (Cw.pw T.base) e).trans h2)
 exact e2
def dlog_Table_Add.f (T : TBv) (x y : Int) : Option Int := some (T.G.add x y)
set_option maxRecDepth 100000 in
set_option maxHeartbeats 2000000 in
theorem dlog_Table_Add.calls (b_a0 : Nat) (a0 : TBv) (a1 : Int) (a2 : Int) (r : Int) (w : World) (hg0 : TBok w b_a0 a0) (h : dlog_Table_Add.f a0 a1 a2 = some r) :
  Calls Try.prog 36 #[.pointer (some ⟨b_a0, 0, none⟩), .int .i64 a1, .int .i64 a2] w fun e w' => e = .returned (.int .i64 r) ∧ Below w.heap.size w w' := by
 obtain rfl := Option.some.inj h
 have hq := a0.G.q_le
 have hnum : ∀ x, a0.G.el x ≠ 0 → a0.G.num (a0.G.el x) = x := fun x h => by rw [a0.G.num_el, a0.G.inn_of (Pl.el_ne.1 h).1]
 by_cases hx : a0.G.el a1 = 0
 ·have l1 := dlog_Table_Log.calls b_a0 a0 a1 0 7 w hg0 (congrArg some (tblog_zero a0 a1 hx))
  by_cases hy : a0.G.el a2 = 0
  ·have hm : a0.G.add a1 a2 = 0 := by unfold Cw.GFv.add; rw [hx, hy, Cw.zero_add, a0.G.num_zero]
   rw [hm]
   have hz := tblog_zero a0 a2 hy
   go_enter Try.func36, Try.ntmps36
   go_wp2_with (first | (go_at_call 28; refine l1.mono ?_; clear l1; rintro e w2 ⟨rfl, hb2⟩; have l2 := dlog_Table_Log.calls b_a0 a0 a2 0 7 w2 (hg0.below hb2) (congrArg some hz)) | (go_at_call 28; refine l2.mono ?_; clear l2; rintro e w3 ⟨rfl, hb3⟩))
   go_ret
   exact ⟨rfl, hb2.trans (hb3.mono hb2.size)⟩
  ·obtain ⟨b, hb, hbe, hbl⟩ := tblog_ok a0 a2 hy
   have hm : a0.G.add a1 a2 = a2 := by unfold Cw.GFv.add; rw [hx, Cw.zero_add, hnum a2 hy]
   rw [hm]
   go_enter Try.func36, Try.ntmps36
   go_wp2_with (first | (go_at_call 28; refine l1.mono ?_; clear l1; rintro e w2 ⟨rfl, hb2⟩; have l2 := dlog_Table_Log.calls b_a0 a0 a2 (b : Int) 0 w2 (hg0.below hb2) (congrArg some hbl)) | (go_at_call 28; refine l2.mono ?_; clear l2; rintro e w3 ⟨rfl, hb3⟩))
   go_ret
   exact ⟨rfl, hb2.trans (hb3.mono hb2.size)⟩
 obtain ⟨a, ha, hae, hal⟩ := tblog_ok a0 a1 hx
 have l1 := dlog_Table_Log.calls b_a0 a0 a1 (a : Int) 0 w hg0 (congrArg some hal)
 by_cases hy : a0.G.el a2 = 0
 ·have hm : a0.G.add a1 a2 = a1 := by unfold Cw.GFv.add; rw [hy, Cw.add_zero, hnum a1 hx]
  rw [hm]
  have hz := tblog_zero a0 a2 hy
  go_enter Try.func36, Try.ntmps36
  go_wp2_with (first | (go_at_call 28; refine l1.mono ?_; clear l1; rintro e w2 ⟨rfl, hb2⟩; have l2 := dlog_Table_Log.calls b_a0 a0 a2 0 7 w2 (hg0.below hb2) (congrArg some hz)) | (go_at_call 28; refine l2.mono ?_; clear l2; rintro e w3 ⟨rfl, hb3⟩))
  go_ret
  exact ⟨rfl, hb2.trans (hb3.mono hb2.size)⟩
 obtain ⟨b, hb, hbe, hbl⟩ := tblog_ok a0 a2 hy
 have hd := tbexp_diff a0 a b
 rw [hae, hbe] at hd
 -- the sum is x times 1 + y / x
 have hs : a0.G.el a1 * a0.G.el (a0.G.add 1 (tbexp a0 ((b : Int) - (a : Int)))) = a0.G.el a1 + a0.G.el a2 := by
  unfold Cw.GFv.add
  rw [a0.G.el_num, a0.G.el_one, Cw.mul_add, Cw.mul_one, hd]
 have hw : wrap64 ((b : Int) - (a : Int)) = (b : Int) - (a : Int) := Pl.w64 (by omega) (by omega)
 by_cases hz : a0.G.el (a0.G.add 1 (tbexp a0 ((b : Int) - (a : Int)))) = 0
 ·have hm : a0.G.add a1 a2 = 0 := by
   unfold Cw.GFv.add
   rw [← hs, hz, Cw.mul_zero, a0.G.num_zero]
  rw [hm]
  have hzl := tblog_zero a0 _ hz
  have HZ := Q9a.mk hzl
  clear ha hae hb hbe hq hs hz hm hd hzl hnum
  go_enter Try.func36, Try.ntmps36
  go_wp2_with (first | (go_at_call 28; refine l1.mono ?_; clear l1; rintro e w2 ⟨rfl, hb2⟩; have l2 := dlog_Table_Log.calls b_a0 a0 a2 (b : Int) 0 w2 (hg0.below hb2) (congrArg some hbl)) | (go_at_call 28; refine l2.mono ?_; clear l2; rintro e w3 ⟨rfl, hb3⟩; have l3 := dlog_Table_Zech.calls b_a0 a0 ((b : Int) - (a : Int)) 0 7 w3 ((hg0.below hb2).below hb3) (congrArg some HZ.out)) | (go_at_call 34; refine l3.mono ?_; clear l3; rintro e w4 ⟨rfl, hb4⟩))
  go_ret
  exact ⟨rfl, (hb2.trans (hb3.mono hb2.size)).trans (hb4.mono (Nat.le_trans hb2.size hb3.size))⟩
 ·obtain ⟨z, hzz, hze, hzl⟩ := tblog_ok a0 _ hz
  have hm : tbexp a0 ((a : Int) + (z : Int)) = a0.G.add a1 a2 := by
   rw [← Int.natCast_add, tbexp_nat, Cw.pw_add, hae, hze, hs]; rfl
  have hw2 : wrap64 ((a : Int) + (z : Int)) = (a : Int) + (z : Int) := Pl.w64 (by omega) (by omega)
  have HM := Q9a.mk hm
  have HZ := Q9a.mk hzl
  clear ha hae hb hbe hq hs hz hm hd hzl hnum hzz hze
  go_enter Try.func36, Try.ntmps36
  go_wp2_with (first | (go_at_call 28; refine l1.mono ?_; clear l1; rintro e w2 ⟨rfl, hb2⟩; have l2 := dlog_Table_Log.calls b_a0 a0 a2 (b : Int) 0 w2 (hg0.below hb2) (congrArg some hbl)) | (go_at_call 28; refine l2.mono ?_; clear l2; rintro e w3 ⟨rfl, hb3⟩; have l3 := dlog_Table_Zech.calls b_a0 a0 ((b : Int) - (a : Int)) (z : Int) 0 w3 ((hg0.below hb2).below hb3) (congrArg some HZ.out)) | (go_at_call 34; refine l3.mono ?_; clear l3; rintro e w4 ⟨rfl, hb4⟩; have l4 := dlog_Table_Exp.calls b_a0 a0 ((a : Int) + (z : Int)) _ w4 (((hg0.below hb2).below hb3).below hb4) (congrArg some HM.out)) | (go_at_call 29; refine l4.mono ?_; clear l4; rintro e w5 ⟨rfl, hb5⟩))
  go_ret
  have h24 := (hb2.trans (hb3.mono hb2.size)).trans (hb4.mono (Nat.le_trans hb2.size hb3.size))
  exact ⟨rfl, h24.trans (hb5.mono h24.size)⟩
end
end Go.Proofs.Ytbohbfggmnjpdaa.Hand
end
