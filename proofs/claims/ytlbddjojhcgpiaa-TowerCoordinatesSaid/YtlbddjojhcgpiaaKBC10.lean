/- What towerCoordinates_holds needs: texts Fn, New, Mk, D7, E1, E2, E3, E4, put together. -/
import Derived.Test.YtlbddjojhcgpiaaKBC9
import Derived.Lib.LazyBuf
set_option linter.unusedVariables false
set_option linter.unusedSimpArgs false
set_option linter.unusedSectionVars false
set_option maxHeartbeats 8000000
set_option maxRecDepth 100000
-- Fn
section
namespace Go.Proofs.Ytlbddjojhcgpiaa.Hand
noncomputable section
open Go.RowKit Go.Proofs.Ytlbddjojhcgpiaa.P Go.Proofs.YtlbddjojhcgpiaaW.PrintWords Go.Proofs.YtlbddjojhcgpiaaW.PrintLast Go.Proofs.YtlbddjojhcgpiaaW.PrintMore
attribute [local go_sem] run_eql_slice_nil
theorem getD_at {l : List Int} {i : Nat} (h : i < l.length) : l.getD i 0 = l[i] := by
 rw [List.getD_eq_getElem?_getD, List.getElem?_eq_getElem h]; rfl
def fill : List Int → Nat → List Int → List Int
 | L, _, [] => L
 | L, n, x :: xs => fill (L.set x.toNat (n : Int)) (n + 1) xs
theorem drop_exp (G : GFv) {j : Nat} (h : j < G.q - 1) : G.exp.drop j = G.num (Cw.pw G.gen j) :: G.exp.drop (j + 1) := by
 have hl : j < G.exp.length := by rw [G.exp_length]; exact h
 rw [List.drop_eq_getElem_cons hl];congr 1
 have := G.exp_at h;rwa [getD_at hl] at this
theorem fill_inv (G : GFv) (d : Nat) : ∀ (j : Nat) (L : List Int), j + d = G.q - 1 → L.length = G.q → (∀ x, x < G.q → L.getD x 0 = if G.lg (Cw.El.dec G.F x) < j then (G.lg (Cw.El.dec G.F x) : Int) else 0) → fill L j (G.exp.drop j) = G.log := by
 induction d with
 | zero =>
  intro j L hj hL h;rw [List.drop_eq_nil_of_le (by rw [G.exp_length]; omega)];show L = G.log
  apply List.ext_getElem (by rw [hL, G.log_length])
  intro i h1 h2;have a := h i (by omega);have b := G.log_at (x := i) (by omega);have c := G.lg_lt (Cw.El.dec G.F i);rw [if_pos (by omega), ← b, getD_at h1, getD_at h2] at a;exact a
 | succ d ih =>
  intro j L hj hL h;have hj' : j < G.q - 1 := by omega
  rw [drop_exp G hj'];show fill (L.set (G.num (Cw.pw G.gen j)).toNat (j : Int)) (j + 1) (G.exp.drop (j + 1)) = G.log
  refine ih (j + 1) _ (by omega) (by rw [List.length_set]; exact hL) ?_;intro x hx;have hX : (G.num (Cw.pw G.gen j)).toNat = (Cw.pw G.gen j).code := by unfold Cw.GFv.num; exact Int.toNat_natCast _
  rw [hX];have hxe : (Cw.El.dec G.F x).code = x := Cw.El.code_dec hx;by_cases hc : (Cw.pw G.gen j).code = x
  ·have e : Cw.El.dec G.F x = Cw.pw G.gen j := by rw [← hc, Cw.El.dec_code]
   rw [e, G.lg_pw hj', if_pos (by omega), hc, getD_at (by rw [List.length_set]; omega), List.getElem_set_self]
  have hs : (L.set (Cw.pw G.gen j).code (j : Int)).getD x 0 = L.getD x 0 := by
   rw [getD_at (by rw [List.length_set]; omega), List.getElem_set_ne hc, getD_at (by omega)]
  rw [hs, h x hx];by_cases h0 : Cw.El.dec G.F x = 0
  ·rw [h0, G.lg_zero];simp
  have hsp := G.lg_spec h0
  have hne : G.lg (Cw.El.dec G.F x) ≠ j := by
   intro e;apply hc
   rw [← hxe, ← hsp.2, e]
  by_cases hlt : G.lg (Cw.El.dec G.F x) < j
  ·rw [if_pos hlt, if_pos (by omega)]
  rw [if_neg hlt, if_neg (by omega)]
theorem fill_all (G : GFv) : fill (List.replicate ((G.q : Int)).toNat 0) (0 : Int).toNat (G.exp.drop (0 : Int).toNat) = G.log := by
 refine fill_inv G (G.q - 1) 0 _ (by omega) (by rw [List.length_replicate]; exact Int.toNat_natCast _) ?_;intro x hx;rw [if_neg (by omega), getD_at (by rw [List.length_replicate]; omega), List.getElem_replicate]
theorem exp_is (G : GFv) {i : Int} (h0 : 0 ≤ i) (h1 : i < (G.exp.length : Int)) : 0 ≤ rd G.exp i ∧ rd G.exp i < (G.q : Int) := by
 rw [G.exp_length] at h1;obtain ⟨j, rfl⟩ := Int.eq_ofNat_of_zero_le h0;rw [rd_exp G (by omega)];exact G.num_is _
theorem fill_step (G : GFv) (L : List Int) {i : Int} (h0 : 0 ≤ i) (h1 : i < (G.exp.length : Int)) : fill L i.toNat (G.exp.drop i.toNat) = fill (L.set (rd G.exp i).toNat i) (i + 1).toNat (G.exp.drop (i + 1).toNat) := by
 rw [G.exp_length] at h1;obtain ⟨j, rfl⟩ := Int.eq_ofNat_of_zero_le h0;rw [rd_exp G (by omega), show ((j : Int) + 1).toNat = j + 1 by omega, Int.toNat_natCast, drop_exp G (by omega)];rfl
theorem new_bad1 (a0_0 : Int) (a0_1 : Int) (A0_2 : Option Addr) (c0_2 : Nat) (l0_2 : List Int) (w : World) (hr0_2 : Kd.C (Kd.int .i64) w A0_2 l0_2.length l0_2) (hc0_2 : l0_2.length ≤ c0_2) (ks : Nat) (hs : field_shape.f ks a0_0 a0_1 l0_2 = some false) :
  Calls Try.prog 38 #[.agg #[.int .i64 a0_0, .int .i64 a0_1, .slice A0_2 l0_2.length c0_2]] w fun e w' => e = .returned (.tuple #[.pointer none, .int .i64 1]) ∧ Below w.heap.size w w' := by
 have hu24 := Try.underlying24;have hu22 := Try.underlying22;have HR := Q9a.mk hr0_2;have HC := Q9a.mk hc0_2;clear hr0_2 hc0_2;have HB := Q9a.mk (Below.refl w.heap.size w);have HS := Q9a.mk hs;clear hs;go_enter Try.func38, Try.ntmps38
 go_wp2_with (first | ((with_reducible refine gD (N := 1) rfl ?_); refine bE ?hg (N := 1) ?hd (cs := #[.int .i64 a0_0, .int .i64 a0_1, .slice A0_2 l0_2.length c0_2]) (t := 24) ?hr ?_; (case hd => rfl); (case hg => rfl); (case hr => first | (go_simp; done) | (go_simp; rfl)); intro gb hg w3 hbox hb; have n0_ := Q9a.mk (bP (by repeat (first | (with_reducible first | exact HB.out | apply bA | apply bN | apply bD | refine bS ?_ GEb.out) | exact HB.out)) hb); have n1_ := Q9a.mk hbox; have n2_ := Q9a.mk (show w.heap.size ≤ gb by rw [hg]; exact bZ HB.out); clear HB; have HB := n0_; have BKb := n1_; have GEb := n2_; clear n0_ n1_ n2_ hb hbox hg; have ha0 : w3.cell? ⟨gb, 0, none⟩ = some (.int .i64 a0_0) := (kC BKb.out 0).trans rfl; have ha1 : w3.cell? ⟨gb, 1, none⟩ = some (.int .i64 a0_1) := (kC BKb.out 1).trans rfl; have ha2 : w3.cell? ⟨gb, 2, none⟩ = some (.slice A0_2 l0_2.length c0_2) := (kC BKb.out 2).trans rfl) | ((with_reducible refine gC (f := 65) rfl ?_); refine gL (some 10) rfl rfl Try.func65 (by kernel_rfl) rfl #[.agg #[.int .i64 a0_0, .int .i64 a0_1, .slice A0_2 l0_2.length c0_2]] rfl (by (try simp only [sm1, sm2, sm3]); first | done | rfl | (simp only [sm4, sm5]; rfl)) ?_; (with_reducible refine (field_shape.calls ks a0_0 a0_1 _ _ l0_2 false _ ?side1 ?side2 HS.out).mono ?_); (case side1 => exact cI HR.out HB.out); (case side2 => exact HC.out); rintro e wa ⟨rfl, hb⟩; refine ⟨_, rfl, ?_⟩; have n1_ := Q9a.mk (kB (g := gb) (o := .cells #[.int .i64 a0_0, .int .i64 a0_1, .slice A0_2 l0_2.length c0_2] 24 (0, 0)) (kI BKb.out) hb); have n2_ := Q9a.mk (bP (by repeat (first | (with_reducible first | exact HB.out | apply bA | apply bN | apply bD | refine bS ?_ GEb.out) | exact HB.out)) hb); clear BKb; clear HB; have BKb := n1_; have HB := n2_; clear n1_ n2_; (try clear hb); have hb0 : wa.cell? ⟨gb, 0, none⟩ = some (.int .i64 a0_0) := (kC BKb.out 0).trans rfl; have hb1 : wa.cell? ⟨gb, 1, none⟩ = some (.int .i64 a0_1) := (kC BKb.out 1).trans rfl; have hb2 : wa.cell? ⟨gb, 2, none⟩ = some (.slice A0_2 l0_2.length c0_2) := (kC BKb.out 2).trans rfl))
 go_ret2
 exact ⟨rfl, (by repeat (first | (with_reducible first | exact HB.out | apply bA | apply bN | apply bD | refine bS ?_ GEb.out) | exact HB.out))⟩
theorem new_bad2 (a0_0 : Int) (a0_1 : Int) (A0_2 : Option Addr) (c0_2 : Nat) (l0_2 : List Int) (w : World) (hr0_2 : Kd.C (Kd.int .i64) w A0_2 l0_2.length l0_2) (hc0_2 : l0_2.length ≤ c0_2) (ks ko kg : Nat) (q : Int) (hs : field_shape.f ks a0_0 a0_1 l0_2 = some true) (ho : field_order.f ko a0_0 a0_1 = some q) (hg : field_generator.f kg a0_0 a0_1 l0_2 q = some []) :
  Calls Try.prog 38 #[.agg #[.int .i64 a0_0, .int .i64 a0_1, .slice A0_2 l0_2.length c0_2]] w fun e w' => e = .returned (.tuple #[.pointer none, .int .i64 1]) ∧ Below w.heap.size w w' := by
 have hu24 := Try.underlying24;have hu22 := Try.underlying22;have HR := Q9a.mk hr0_2;have HC := Q9a.mk hc0_2;clear hr0_2 hc0_2;have HB := Q9a.mk (Below.refl w.heap.size w);have HS := Q9a.mk hs;have HO := Q9a.mk ho;have HG := Q9a.mk hg;clear hs ho hg;go_enter Try.func38, Try.ntmps38
 go_wp2_with (first | ((with_reducible refine gD (N := 1) rfl ?_); refine bE ?hg (N := 1) ?hd (cs := #[.int .i64 a0_0, .int .i64 a0_1, .slice A0_2 l0_2.length c0_2]) (t := 24) ?hr ?_; (case hd => rfl); (case hg => rfl); (case hr => first | (go_simp; done) | (go_simp; rfl)); intro gb hg w3 hbox hb; have n0_ := Q9a.mk (bP (by repeat (first | (with_reducible first | exact HB.out | apply bA | apply bN | apply bD | refine bS ?_ GEb.out) | exact HB.out)) hb); have n1_ := Q9a.mk hbox; have n2_ := Q9a.mk (show w.heap.size ≤ gb by rw [hg]; exact bZ HB.out); clear HB; have HB := n0_; have BKb := n1_; have GEb := n2_; clear n0_ n1_ n2_ hb hbox hg; have ha0 : w3.cell? ⟨gb, 0, none⟩ = some (.int .i64 a0_0) := (kC BKb.out 0).trans rfl; have ha1 : w3.cell? ⟨gb, 1, none⟩ = some (.int .i64 a0_1) := (kC BKb.out 1).trans rfl; have ha2 : w3.cell? ⟨gb, 2, none⟩ = some (.slice A0_2 l0_2.length c0_2) := (kC BKb.out 2).trans rfl) | ((with_reducible refine gC (f := 65) rfl ?_); refine gL (some 10) rfl rfl Try.func65 (by kernel_rfl) rfl #[.agg #[.int .i64 a0_0, .int .i64 a0_1, .slice A0_2 l0_2.length c0_2]] rfl (by (try simp only [sm1, sm2, sm3]); first | done | rfl | (simp only [sm4, sm5]; rfl)) ?_; (with_reducible refine (field_shape.calls ks a0_0 a0_1 _ _ l0_2 true _ ?side1 ?side2 HS.out).mono ?_); (case side1 => exact cI HR.out HB.out); (case side2 => exact HC.out); rintro e wa ⟨rfl, hb⟩; refine ⟨_, rfl, ?_⟩; have n1_ := Q9a.mk (kB (g := gb) (o := .cells #[.int .i64 a0_0, .int .i64 a0_1, .slice A0_2 l0_2.length c0_2] 24 (0, 0)) (kI BKb.out) hb); have n2_ := Q9a.mk (bP (by repeat (first | (with_reducible first | exact HB.out | apply bA | apply bN | apply bD | refine bS ?_ GEb.out) | exact HB.out)) hb); clear BKb; clear HB; have BKb := n1_; have HB := n2_; clear n1_ n2_; (try clear hb); have hb0 : wa.cell? ⟨gb, 0, none⟩ = some (.int .i64 a0_0) := (kC BKb.out 0).trans rfl; have hb1 : wa.cell? ⟨gb, 1, none⟩ = some (.int .i64 a0_1) := (kC BKb.out 1).trans rfl; have hb2 : wa.cell? ⟨gb, 2, none⟩ = some (.slice A0_2 l0_2.length c0_2) := (kC BKb.out 2).trans rfl) | ((with_reducible refine gC (f := 66) rfl ?_); refine gL (some 16) rfl rfl Try.func66 (by kernel_rfl) rfl #[.int .i64 a0_0, .int .i64 a0_1] rfl (by (try simp only [sm1, sm2, sm3]); first | done | rfl | (simp only [sm4, sm5]; rfl)) ?_; (with_reducible refine (field_order.calls ko a0_0 a0_1 q _ HO.out).mono ?_); rintro e w' ⟨rfl, ⟨nd, rfl⟩⟩; refine ⟨_, rfl, ?_⟩) | ((with_reducible refine gC (f := 67) rfl ?_); refine gL (some 19) rfl rfl Try.func67 (by kernel_rfl) rfl #[.agg #[.int .i64 a0_0, .int .i64 a0_1, .slice A0_2 l0_2.length c0_2], .int .i64 q] rfl (by (try simp only [sm1, sm2, sm3]); first | done | rfl | (simp only [sm4, sm5]; rfl)) ?_; (with_reducible refine (field_generator.callsN kg a0_0 a0_1 _ _ l0_2 q [] _ ?side1 ?side2 HG.out).mono ?_); (case side1 => exact cI HR.out HB.out); (case side2 => exact HC.out); rintro e wg ⟨vx, rfl, hnil, ho0, hb⟩; refine ⟨_, rfl, ?_⟩; have nx_ := Q9a.mk (Kd.rL ho0 (bZ (by repeat (first | (with_reducible first | exact HB.out | apply bA | apply bN | apply bD | refine bS ?_ GEb.out) | exact HB.out)))); have n1_ := Q9a.mk (kB (g := gb) (o := .cells #[.int .i64 a0_0, .int .i64 a0_1, .slice A0_2 l0_2.length c0_2] 24 (0, 0)) (kI BKb.out) hb); have n2_ := Q9a.mk (bP (by repeat (first | (with_reducible first | exact HB.out | apply bA | apply bN | apply bD | refine bS ?_ GEb.out) | exact HB.out)) hb); clear BKb; clear HB; have BKb := n1_; have HB := n2_; clear n1_ n2_; (try clear hb); have HX := nx_; clear nx_ ho0; obtain rfl := hnil rfl; have hd0 : wg.cell? ⟨gb, 0, none⟩ = some (.int .i64 a0_0) := (kC BKb.out 0).trans rfl; have hd1 : wg.cell? ⟨gb, 1, none⟩ = some (.int .i64 a0_1) := (kC BKb.out 1).trans rfl; have hd2 : wg.cell? ⟨gb, 2, none⟩ = some (.slice A0_2 l0_2.length c0_2) := (kC BKb.out 2).trans rfl))
 go_ret2
 exact ⟨rfl, (by repeat (first | (with_reducible first | exact HB.out | apply bA | apply bN | apply bD | refine bS ?_ GEb.out) | exact HB.out))⟩
def field_New.T7 : Bool × List (List Nat × List Nat) := (true, [([], []), ([0], [0]), ([], []), ([2], [2]), ([], []), ([], []), ([5], [5]), ([4, 6], [4, 6]), ([1, 3, 7], [1, 3, 7]), ([], []), ([], []), ([], []), ([11, 11], [11]), ([8, 9, 10, 12], [8, 9, 10, 12]), ([13], [13]), ([14, 7, 0, 1, 2, 3, 4, 5, 6, 7, 8, 9, 10, 11, 12, 13, 14], [14])])
def field_New.B7 : List Nat := [0, 1, 0, 4, 0, 0, 32, 112, 255, 0, 0, 0, 2048, 8191, 16383, 32767]
theorem field_New.tab7 : rtab .any (opsOf Try.f38 7) = field_New.T7 := by kernel_rfl
theorem field_New.bits7 : waitsOk field_New.T7.2 field_New.B7 = true := by kernel_rfl
theorem new_ok (a0_0 : Int) (a0_1 : Int) (A0_2 : Option Addr) (c0_2 : Nat) (l0_2 : List Int) (w : World) (hr0_2 : Kd.C (Kd.int .i64) w A0_2 l0_2.length l0_2) (hc0_2 : l0_2.length ≤ c0_2) (ks ko kg : Nat) (q : Int) (G : GFv) (hp : (G.F.p : Int) = a0_0) (hm : (G.F.m : Int) = a0_1) (hmod : G.mod = l0_2) (hq : (G.q : Int) = q) (hs : field_shape.f ks a0_0 a0_1 l0_2 = some true) (ho : field_order.f ko a0_0 a0_1 = some q) (hg : field_generator.f kg a0_0 a0_1 l0_2 q = some G.exp) :
  Calls Try.prog 38 #[.agg #[.int .i64 a0_0, .int .i64 a0_1, .slice A0_2 l0_2.length c0_2]] w fun e w' => ∃ b_ : Nat, e = .returned (.tuple #[.pointer (some ⟨b_, 0, none⟩), .int .i64 0]) ∧ Below w.heap.size w w' ∧ GFok w' b_ G := by
 have hu24 := Try.underlying24;have hu22 := Try.underlying22;have HR := Q9a.mk hr0_2;have HC := Q9a.mk hc0_2;clear hr0_2 hc0_2;have HB := Q9a.mk (Below.refl w.heap.size w);have HS := Q9a.mk hs;have HO := Q9a.mk ho;have HG := Q9a.mk hg;have hexp := exp_len G;have hqle := G.q_le;have hqge := G.q_ge;have hmlen := G.mod_len;have HQ := Q9a.mk (show 2 ≤ q ∧ q ≤ 256 by omega);have HLen := Q9a.mk (show l0_2.length ≤ 8 by rw [← hmod]; exact hmlen);have HE := Q9a.mk (show 0 < G.exp.length ∧ (G.exp.length : Int) = q - 1 by omega);clear hs ho hg hexp hqle hqge hmlen;go_enter Try.func38, Try.ntmps38
 go_upto_region 7 with (first | ((with_reducible refine gD (N := 1) rfl ?_); refine bE ?hg (N := 1) ?hd (cs := #[.int .i64 a0_0, .int .i64 a0_1, .slice A0_2 l0_2.length c0_2]) (t := 24) ?hr ?_; (case hd => rfl); (case hg => rfl); (case hr => first | (go_simp; done) | (go_simp; rfl)); intro gb hg w3 hbox hb; have n0_ := Q9a.mk (bP (by repeat (first | (with_reducible first | exact HB.out | apply bA | apply bN | apply bD | refine bS ?_ GEb.out) | exact HB.out)) hb); have n1_ := Q9a.mk hbox; have n2_ := Q9a.mk (show w.heap.size ≤ gb by rw [hg]; exact bZ HB.out); clear HB; have HB := n0_; have BKb := n1_; have GEb := n2_; clear n0_ n1_ n2_ hb hbox hg; have ha0 : w3.cell? ⟨gb, 0, none⟩ = some (.int .i64 a0_0) := (kC BKb.out 0).trans rfl; have ha1 : w3.cell? ⟨gb, 1, none⟩ = some (.int .i64 a0_1) := (kC BKb.out 1).trans rfl; have ha2 : w3.cell? ⟨gb, 2, none⟩ = some (.slice A0_2 l0_2.length c0_2) := (kC BKb.out 2).trans rfl) | ((with_reducible refine gC (f := 65) rfl ?_); refine gL (some 10) rfl rfl Try.func65 (by kernel_rfl) rfl #[.agg #[.int .i64 a0_0, .int .i64 a0_1, .slice A0_2 l0_2.length c0_2]] rfl (by (try simp only [sm1, sm2, sm3]); first | done | rfl | (simp only [sm4, sm5]; rfl)) ?_; (with_reducible refine (field_shape.calls ks a0_0 a0_1 _ _ l0_2 true _ ?side1 ?side2 HS.out).mono ?_); (case side1 => exact cI HR.out HB.out); (case side2 => exact HC.out); rintro e wa ⟨rfl, hb⟩; refine ⟨_, rfl, ?_⟩; have n1_ := Q9a.mk (kB (g := gb) (o := .cells #[.int .i64 a0_0, .int .i64 a0_1, .slice A0_2 l0_2.length c0_2] 24 (0, 0)) (kI BKb.out) hb); have n2_ := Q9a.mk (bP (by repeat (first | (with_reducible first | exact HB.out | apply bA | apply bN | apply bD | refine bS ?_ GEb.out) | exact HB.out)) hb); clear BKb; clear HB; have BKb := n1_; have HB := n2_; clear n1_ n2_; (try clear hb); have hb0 : wa.cell? ⟨gb, 0, none⟩ = some (.int .i64 a0_0) := (kC BKb.out 0).trans rfl; have hb1 : wa.cell? ⟨gb, 1, none⟩ = some (.int .i64 a0_1) := (kC BKb.out 1).trans rfl; have hb2 : wa.cell? ⟨gb, 2, none⟩ = some (.slice A0_2 l0_2.length c0_2) := (kC BKb.out 2).trans rfl) | ((with_reducible refine gC (f := 66) rfl ?_); refine gL (some 16) rfl rfl Try.func66 (by kernel_rfl) rfl #[.int .i64 a0_0, .int .i64 a0_1] rfl (by (try simp only [sm1, sm2, sm3]); first | done | rfl | (simp only [sm4, sm5]; rfl)) ?_; (with_reducible refine (field_order.calls ko a0_0 a0_1 q _ HO.out).mono ?_); rintro e w' ⟨rfl, ⟨nd, rfl⟩⟩; refine ⟨_, rfl, ?_⟩) | ((with_reducible refine gC (f := 67) rfl ?_); refine gL (some 19) rfl rfl Try.func67 (by kernel_rfl) rfl #[.agg #[.int .i64 a0_0, .int .i64 a0_1, .slice A0_2 l0_2.length c0_2], .int .i64 q] rfl (by (try simp only [sm1, sm2, sm3]); first | done | rfl | (simp only [sm4, sm5]; rfl)) ?_; (with_reducible refine (field_generator.callsN kg a0_0 a0_1 _ _ l0_2 q G.exp _ ?side1 ?side2 HG.out).mono ?_); (case side1 => exact cI HR.out HB.out); (case side2 => exact HC.out); rintro e wg ⟨vx, rfl, hnil, ho0, hb⟩; refine ⟨_, rfl, ?_⟩; have nx_ := Q9a.mk (Kd.rL ho0 (bZ (by repeat (first | (with_reducible first | exact HB.out | apply bA | apply bN | apply bD | refine bS ?_ GEb.out) | exact HB.out)))); have n1_ := Q9a.mk (kB (g := gb) (o := .cells #[.int .i64 a0_0, .int .i64 a0_1, .slice A0_2 l0_2.length c0_2] 24 (0, 0)) (kI BKb.out) hb); have n2_ := Q9a.mk (bP (by repeat (first | (with_reducible first | exact HB.out | apply bA | apply bN | apply bD | refine bS ?_ GEb.out) | exact HB.out)) hb); clear BKb; clear HB; have BKb := n1_; have HB := n2_; clear n1_ n2_; (try clear hb); have HX := nx_; clear nx_ ho0; obtain ⟨gx, cx, hfx, -⟩ := Kd.R_form HX.out HE.out.1; subst hfx; clear hnil; have hd0 : wg.cell? ⟨gb, 0, none⟩ = some (.int .i64 a0_0) := (kC BKb.out 0).trans rfl; have hd1 : wg.cell? ⟨gb, 1, none⟩ = some (.int .i64 a0_1) := (kC BKb.out 1).trans rfl; have hd2 : wg.cell? ⟨gb, 2, none⟩ = some (.slice A0_2 l0_2.length c0_2) := (kC BKb.out 2).trans rfl))
 obtain ⟨n0, hn0⟩ : ∃ n_ : Nat, n_ = wg.heap.size := ⟨_, rfl⟩;have nx_ := Q9a.mk (Kd.rD (Kd.R_mono (ok' := fun k => k < n0) (Kd.R_bound HX.out) (fun k hk => by have := hk.2.2.1; omega)));have nb_ := Q9a.mk (kD BKb.out);have nh_ := Q9a.mk (bD HB.out);have nn_ := Q9a.mk (show n0 ≤ wg.drew.heap.size by rw [hn0]; exact Nat.le_refl _);clear HX BKb HB hn0;have HX := nx_;have BKb := nb_;have HB := nh_;have HN := nn_;clear nx_ nb_ nh_ nn_;refine start_ (n := 16) (S := fun w' => w'.cell? ⟨gb, 0, none⟩ = some (.int .i64 a0_0) ∧ w'.cell? ⟨gb, 1, none⟩ = some (.int .i64 a0_1) ∧ w'.cell? ⟨gb, 2, none⟩ = some (.slice A0_2 l0_2.length c0_2)) (ds := []) #[fB,fB,fB,fB,fB,fB,fB,fB,fB,fB,fB,fB,fB,fB,fB,fB] (by kernel_rfl) rfl rfl ⟨(kC BKb.out 0).trans rfl, (kC BKb.out 1).trans rfl, (kC BKb.out 2).trans rfl⟩ (fun hHeld => ?_); refine with_tabW field_New.tab7 field_New.bits7 (fun HT_ HW_ => ?_);generalize wg.drew = w5 at HX BKb HB HN hHeld ⊢;refine pT 0 22 rfl HT_.out ?_;refine pT 2 24 rfl HT_.out ?_;refine pT 5 27 rfl HT_.out ?_;refine pT 9 31 rfl HT_.out ?_;refine pT 10 32 rfl HT_.out ?_;refine pT 11 33 rfl HT_.out ?_;refine tT 1 23 rfl HT_.out HW_.out hHeld ?_;refine tT 3 25 rfl HT_.out HW_.out hHeld ?_;refine tT 6 28 rfl HT_.out HW_.out hHeld ?_;refine join_ (σ := Value × Option Addr × Nat × Value) 3 #[tB,tB,tB,tB,tB,tB,tB,tB,tB,tB,tB,tB,tB,fB,fB,fB] (fun s => [(26, s.1), (29, .slice s.2.1 l0_2.length s.2.2.1), (30, .agg #[.int .i64 a0_0, .int .i64 a0_1, .slice s.2.1 l0_2.length s.2.2.1]), (34, s.2.2.2)]) (fun s w' => ∃ gl : Nat, Q9a (Below w.heap.size w w') ∧ Q9a (w'.heap[gb]? = some (.cells #[.int .i64 a0_0, .int .i64 a0_1, .slice A0_2 l0_2.length c0_2] 24 (0, 0))) ∧ Q9a (Kd.R (Kd.int .i64) 3 w' w.heap.size (fun k => k < n0) (.slice (some ⟨gx, 0, none⟩) G.exp.length cx) G.exp) ∧ Q9a (Kd.R (Kd.int .i64) 3 w' w.heap.size (fun k => n0 ≤ k ∧ k ≠ gl) (.slice s.2.1 l0_2.length s.2.2.1) l0_2) ∧ Q9a (Kd.R (Kd.int .i64) 3 w' w.heap.size (fun k => k = gl) s.2.2.2 (List.replicate q.toNat 0)) ∧ Q9a (n0 ≤ gl)) ?_ ?_
 ·skip
  rintro ⟨vm, An, cn, vl⟩ w6 ⟨gl, HB, BKb, HX, HM, HL, HGl⟩;obtain ⟨gl', cl, hfl, -⟩ := Kd.R_form HL.out (by have := HQ.out; simp; omega);obtain rfl : gl = gl' := (HL.out.1 gl' (by rw [hfl]; rfl)).symm;subst hfl;have HGb := Q9a.mk (show w.heap.size ≤ gl from Kd.R_base HL.out gl rfl);have hHeld : w6.cell? ⟨gb, 0, none⟩ = some (.int .i64 a0_0) ∧ w6.cell? ⟨gb, 1, none⟩ = some (.int .i64 a0_1) ∧ w6.cell? ⟨gb, 2, none⟩ = some (.slice A0_2 l0_2.length c0_2) := ⟨(kC BKb.out 0).trans rfl, (kC BKb.out 1).trans rfl, (kC BKb.out 2).trans rfl⟩;refine norm_ (a' := ?_) ?_ ?_;rotate_left
  ·simp only [putAll];simp only [Act.put, sz1, sz2, sz3, i64_w, i32_w];rfl
  refine pT 13 35 rfl HT_.out ?_;refine oT 14 36 rfl HT_.out (fun K hK => ?_);refine box_step (by rfl) (N := 36) ?hd (cs := #[.int .i64 a0_0, .int .i64 a0_1, .slice An l0_2.length cn, .int .i64 q, .slice (some ⟨gx, 0, none⟩) G.exp.length cx, .slice (some ⟨gl, 0, none⟩) (List.replicate q.toNat (0 : Int)).length cl]) (t := 90) ?hr ?_
  case hd => rfl
  case hr => first | (go_simp; done) | (go_simp; rfl)
  intro gg hgg w7 hbox hb;have nb_ := Q9a.mk (kB (g := gb) BKb.out hb);have nx_ := Q9a.mk (Kd.R_below HX.out hb);have nm_ := Q9a.mk (Kd.R_below HM.out hb);have nl_ := Q9a.mk (Kd.R_below HL.out hb);have ng_ := Q9a.mk (show w.heap.size ≤ gg by rw [hgg]; exact bZ HB.out);have nh_ := Q9a.mk (bP HB.out hb);have nk_ := Q9a.mk hbox;clear HB BKb HX HM HL;have HB := nh_;have BKb := nb_;have HX := nx_;have HM := nm_;have HL := nl_;have GEg := ng_;have BKg := nk_;clear nh_ nb_ nx_ nm_ nl_ ng_ nk_;clear hb hgg hbox;refine hK.out _ _ ⟨(kC BKb.out 0).trans rfl, (kC BKb.out 1).trans rfl, (kC BKb.out 2).trans rfl⟩ (fun hHeld => ?_);clear hK K;refine norm_ (a' := ?_) ?_ ?_;rotate_left
  ·show Act.put _ (some 36) _ = _
   simp only [Act.put, sz1, sz2, sz3, i64_w, i32_w];rfl
  refine pT 15 6 rfl HT_.out ?_;refine done_ (done_of HT_.out (by kernel_rfl)) ?_;try go_wp2
  have hqn := HQ.out;obtain ⟨nq, hnq⟩ : ∃ n_ : Nat, n_ = q.toNat := ⟨_, rfl⟩;have HNq := Q9a.mk hnq;rw [List.length_replicate, ← hnq] at HL BKg;go_loopg [39] G.exp.length (fun kq v39 w' => ∃ (x39 : Int) (L : List Int), v39 = .int .i64 x39 ∧ Q9a (0 ≤ x39 ∧ x39 + (kq : Int) = (G.exp.length : Int) ∧ fill L x39.toNat (G.exp.drop x39.toNat) = G.log ∧ L.length = nq) ∧ Q9a (w'.heap[gg]? = some (.cells #[.int .i64 a0_0, .int .i64 a0_1, .slice An l0_2.length cn, .int .i64 q, .slice (some ⟨gx, 0, none⟩) G.exp.length cx, .slice (some ⟨gl, 0, none⟩) nq cl] 90 (0, 0))) ∧ Q9a (Kd.R (Kd.int .i64) 3 w' w.heap.size (fun k => k < n0) (.slice (some ⟨gx, 0, none⟩) G.exp.length cx) G.exp) ∧ Q9a (Kd.R (Kd.int .i64) 3 w' w.heap.size (fun k => n0 ≤ k ∧ k ≠ gl) (.slice An l0_2.length cn) l0_2) ∧ Q9a (Kd.R (Kd.int .i64) 3 w' w.heap.size (fun k => k = gl) (.slice (some ⟨gl, 0, none⟩) nq cl) L) ∧ Q9a (Below w.heap.size w w'))
  case atStart => exact ⟨0, List.replicate nq 0, rfl, ⟨⟨Int.le_refl _, by omega, by rw [hnq, ← hq]; exact fill_all G, by rw [List.length_replicate]⟩⟩, BKg, HX, HM, HL, HB⟩
  case round =>
   clear hnq;obtain ⟨x39, L, rfl, HI, BKg, HX, HM, HL, HB⟩ := hrel;by_cases c : x39 < (G.exp.length : Int)
   ·have cb : decide (x39 < (G.exp.length : Int)) = true := decide_eq_true c;obtain ⟨k1, rfl⟩ : ∃ k1, gk = k1 + 1 := ⟨gk - 1, by have := HI.out.2.1; omega⟩;have hx : wr.cell? ⟨gx, x39.toNat, none⟩ = some (.int .i64 (rd G.exp x39)) := (Kd.R_celln 0 HX.out x39 HI.out.1 c).1;have hXb := exp_is G HI.out.1 c;have hstep := fill_step G L HI.out.1 c;obtain ⟨X, hX⟩ : ∃ X : Int, X = rd G.exp x39 := ⟨_, rfl⟩;rw [← hX] at hx hXb hstep;have pX : 0 ≤ X := hXb.1;have qX : X < (nq : Int) := by have := hXb.2; have := HNq.out; omega
    obtain ⟨hxl, hfl⟩ := Kd.R_celln 0 HL.out X pX qX;have hcg5 : wr.cell? ⟨gg, 5, none⟩ = some (.slice (some ⟨gl, 0, none⟩) nq cl) := (kC BKg.out 5).trans rfl;have HP := Kd.R_putg HL.out X x39;have HSt := Q9a.mk hstep;have HXi := Q9a.mk (show 0 ≤ x39 ∧ x39 < (G.exp.length : Int) from ⟨HI.out.1, c⟩);have c0 := eq_true HI.out.1;replace c := eq_true c;replace pX := eq_true pX;replace qX := eq_true qX;clear hstep hXb hX;go_wp2_with (first | ((with_reducible refine gate_store (t := 3) (p := 50) rfl ?_); refine store_event (t := 3) (p := 50) (v := ?vo) (w1 := (wr.setCell ⟨gl, X.toNat, none⟩ (.int .i64 x39))) ?hg ?ho ?hn ?hr ?_; (case ho => rfl); (case hg => rfl); (case hn => rfl); (case hr => first | (go_simp; done) | (go_simp; rfl)); intro ws hw; have hg : wr.grownBy ws (some gl) := (by rw [hw]; exact HP.2); have nl_ : Q9a (Kd.R (Kd.int .i64) 3 ws w.heap.size (fun k => k = gl) (.slice (some ⟨gl, 0, none⟩) nq cl) (L.set X.toNat x39)) := ⟨by rw [hw]; exact HP.1⟩; have nb_ := Q9a.mk (blk_grown (g := gg) BKg.out hg (Kd.R_ne HL.out BKg.out (by decide))); have nx_ := Q9a.mk (Kd.R_grown HX.out hg (fun k hk he => by injection he with he; have := HGl.out; omega)); have nm_ := Q9a.mk (Kd.R_grown HM.out hg (fun k hk he => hk.2 (by injection he))); have nh_ := Q9a.mk ((by rw [hw]; exact bS HB.out HGb.out : Below w.heap.size w ws)); clear HL BKg HX HM HB HP; have HL := nl_; have BKg := nb_; have HX := nx_; have HM := nm_; have HB := nh_; clear nl_ nb_ nx_ nm_ nh_ hg hw hx hxl hfl hcg5))
    go_roundg k1
    case measure => omega
    case rel =>
     have e1 : wrap64 (x39 + 1) = x39 + 1 := by
      have h1 := HXi.out;have h2 := HE.out;unfold wrap64
      omega
     have h3 := HI.out;refine ⟨_, L.set X.toNat x39, rfl, ⟨?_⟩, BKg, HX, HM, HL, HB⟩;rw [e1];exact ⟨by omega, by omega, by rw [← HSt.out]; exact h3.2.2.1, by rw [List.length_set]; exact h3.2.2.2⟩
   have cb : decide (x39 < (G.exp.length : Int)) = false := decide_eq_false c;have hI := HI.out
   have hfin : L = G.log := by
    have h1 := hI.2.2.1;rw [List.drop_eq_nil_of_le (by omega)] at h1;exact h1
   subst hfin;have hll := log_len G;have hqt : nq = G.log.length := by have := HNq.out; omega
   have HFin : Q9a (Kd.R (Kd.int .i64) 3 wr w.heap.size (fun k => k = gl) (.slice (some ⟨gl, 0, none⟩) G.log.length cl) G.log) := ⟨by rw [← hqt]; exact HL.out⟩;have BKf : Q9a (GFok wr gg G) := ⟨⟨An, cn, some ⟨gx, 0, none⟩, cx, some ⟨gl, 0, none⟩, cl, by rw [hp, hm, hmod, hq, ← hqt]; exact BKg.out, by rw [hmod]; exact (Kd.R_reads' HM.out).2.2, by rw [hmod]; exact (Kd.R_reads' HM.out).2.1, (Kd.R_reads' HX.out).2.2, (Kd.R_reads' HX.out).2.1, (Kd.R_reads' HFin.out).2.2, (Kd.R_reads' HFin.out).2.1⟩⟩;clear hI hll hqt;go_wp2
   go_ret2
   exact ⟨gg, rfl, HB.out, BKf.out⟩
 skip
 intro hc;refine two_ (i := 4) (j := 12) (Ni := some 26) (Nj := some 34) #[tB,tB,tB,tB,tB,tB,tB,fB,fB,tB,tB,tB,fB,fB,fB,fB] #[tB,tB,tB,tB,fB,tB,tB,fB,fB,tB,tB,tB,tB,fB,fB,fB] rfl rfl rfl rfl (two_of HT_.out (by kernel_rfl)) (by decide) (by decide) (fun K hK => ?_) (fun K hK => ?_)
 ·skip
  refine Kd.R_lit_step (Kd.int .i64) (w0 := w) w.heap.size 3 (by rfl) (N := 26) ?hd (xs := ([] : List Int)) (inner := []) (ok := (fun k => n0 ≤ k)) (okp := (fun k => n0 ≤ k)) ?hr ?hp (fun _ hk => hk) (HN.out) HB.out (bZ HB.out) (by simp) ?_
  case hd => rfl
  case hr => first | (go_simp; done) | (go_simp; rfl)
  case hp => exact Reps.none _ _
  intro vm wm ho hb hg hnew;have nb_ := Q9a.mk (blk_grown (g := gb) BKb.out hg (by simp));have nn_ := Q9a.mk (Nat.le_trans HN.out hg.size);have nx_ := Q9a.mk (Kd.R_grown HX.out hg (fun _ _ => by simp));have nm_ := Q9a.mk ho;have nh_ := Q9a.mk hb;clear HB BKb HN HX;have HB := nh_;have BKb := nb_;have HN := nn_;have HX := nx_;have HM := nm_;clear nh_ nb_ nn_ nx_ nm_;clear ho hb hg hnew;refine hK.out _ _ ⟨(kC BKb.out 0).trans rfl, (kC BKb.out 1).trans rfl, (kC BKb.out 2).trans rfl⟩ (fun hHeld => ?_);clear hK K;refine norm_ (a' := ?_) ?_ ?_;rotate_left
  ·show Act.put _ (some 26) _ = _
   simp only [Act.put, sz1, sz2, sz3, i64_w, i32_w];rfl
  refine two_ (i := 7) (j := 12) (Ni := some 29) (Nj := some 34) #[tB,tB,tB,tB,tB,tB,tB,tB,fB,tB,tB,tB,fB,fB,fB,fB] #[tB,tB,tB,tB,tB,tB,tB,fB,fB,tB,tB,tB,tB,fB,fB,fB] rfl rfl rfl rfl (two_of HT_.out (by kernel_rfl)) (by decide) (by decide) (fun K hK => ?_) (fun K hK => ?_)
  ·skip
   refine Kd.R_append_rows_step (Kd.int .i64) (w0 := w) w.heap.size (by rfl) (.tmp 26) (.tmp 28) 22 3 (.int .i64 0) 8 rfl Try.underlying22 info3 rfl (by decide) (by omega) vm ([] : List Int) l0_2 A0_2 l0_2.length c0_2 (fun k => n0 ≤ k) (fun _ => False) rfl rfl ?aO ?aR (fun _ _ h => h) (fun _ h => h.elim) ?aF ?aB ?aS ?aL ?_
   case aR => exact Kd.cB HR.out HB.out
   case aB => exact HB.out
   case aF => exact (fun k hk => Nat.le_trans HN.out hk)
   case aO => exact HM.out
   case aS => exact bZ HB.out
   case aL => have := HLen.out; simp; omega
   intro vn wn ho hb hg hat;rw [List.nil_append] at ho;have nb_ := Q9a.mk (blk_grown (g := gb) BKb.out hg (Kd.R_ne HM.out BKb.out (by decide)));have nn_ := Q9a.mk (Nat.le_trans HN.out hg.size);have nx_ := Q9a.mk (Kd.R_grown HX.out hg (fun k hk he => by have := HM.out.1 k he.symm; omega));have nm_ := Q9a.mk ho;have nh_ := Q9a.mk hb;clear HB BKb HN HX HM;have HB := nh_;have BKb := nb_;have HN := nn_;have HX := nx_;have HM := nm_;clear nh_ nb_ nn_ nx_ nm_;clear ho hb hg hat;obtain ⟨An, cn, rfl⟩ := Kd.R_slice HM.out;refine hK.out _ _ ⟨(kC BKb.out 0).trans rfl, (kC BKb.out 1).trans rfl, (kC BKb.out 2).trans rfl⟩ (fun hHeld => ?_);clear hK K;refine norm_ (a' := ?_) ?_ ?_;rotate_left
   ·show Act.put _ (some 29) _ = _
    simp only [Act.put, sz1, sz2, sz3, i64_w, i32_w];rfl
   refine pT 8 30 rfl HT_.out ?_;refine oT 12 34 rfl HT_.out (fun K hK => ?_);refine Kd.R_make_step (Kd.int .i64) (w0 := w) w.heap.size 3 (by rfl) (N := 34) rfl 22 _ _ rfl q rfl rfl Try.underlying22 (.int .i64 0) 8 info3 rfl (by decide) (by omega) 0 (ok := fun k => k = wn.heap.size) (okp := fun k => k = wn.heap.size) rfl (fun _ hk => hk) rfl (by have := HQ.out; omega) (by have := HQ.out; omega) HB.out (bZ HB.out) ?_;intro vl wl ho hb hg hnew;obtain ⟨gl, hgl⟩ : ∃ g_ : Nat, g_ = wn.heap.size := ⟨_, rfl⟩;rw [← hgl] at ho;have hlb : (vl : Value).ownBlock = some gl := by obtain ⟨b_, e1, -⟩ := hnew; rw [e1, ho.1 b_ e1]
   have nb_ := Q9a.mk (blk_grown (g := gb) BKb.out hg (by simp));have nn_ := Q9a.mk (Nat.le_trans HN.out hg.size);have nx_ := Q9a.mk (Kd.R_grown HX.out hg (fun _ _ => by simp));have ng_ := Q9a.mk (show n0 ≤ gl by rw [hgl]; exact HN.out);have nm_ := Q9a.mk (Kd.R_grown (Kd.R_mono (ok' := fun k => n0 ≤ k ∧ k ≠ gl) (Kd.R_bound HM.out) (fun k hk => ⟨hk.1, by have := hk.2.2.1; omega⟩)) hg (fun _ _ => by simp));have nl_ := Q9a.mk ho;have nh_ := Q9a.mk hb;clear HB BKb HN HX HM;have HB := nh_;have BKb := nb_;have HN := nn_;have HX := nx_;have HL := nl_;have HGl := ng_;have HM := nm_;clear nh_ nb_ nn_ nx_ nl_ ng_ nm_;clear ho hb hg hnew hgl;refine hK.out _ _ ⟨(kC BKb.out 0).trans rfl, (kC BKb.out 1).trans rfl, (kC BKb.out 2).trans rfl⟩ (fun hHeld => ?_);clear hK K;refine norm_ (a' := ?_) ?_ ?_;rotate_left
   ·show Act.put _ (some 34) _ = _
    simp only [Act.put, sz1, sz2, sz3, i64_w, i32_w];rfl
   refine norm_ ?_ (hc (vm, An, cn, vl) _ ⟨gl, HB, BKb, HX, HM, HL, HGl⟩);simp only [putAll, Act.put, sz1, sz2, sz3]
  skip
  refine Kd.R_make_step (Kd.int .i64) (w0 := w) w.heap.size 3 (by rfl) (N := 34) rfl 22 _ _ rfl q rfl rfl Try.underlying22 (.int .i64 0) 8 info3 rfl (by decide) (by omega) 0 (ok := fun k => k = wm.heap.size) (okp := fun k => k = wm.heap.size) rfl (fun _ hk => hk) rfl (by have := HQ.out; omega) (by have := HQ.out; omega) HB.out (bZ HB.out) ?_;intro vl wl ho hb hg hnew;obtain ⟨gl, hgl⟩ : ∃ g_ : Nat, g_ = wm.heap.size := ⟨_, rfl⟩;rw [← hgl] at ho;have hlb : (vl : Value).ownBlock = some gl := by obtain ⟨b_, e1, -⟩ := hnew; rw [e1, ho.1 b_ e1]
  have nb_ := Q9a.mk (blk_grown (g := gb) BKb.out hg (by simp));have nn_ := Q9a.mk (Nat.le_trans HN.out hg.size);have nx_ := Q9a.mk (Kd.R_grown HX.out hg (fun _ _ => by simp));have ng_ := Q9a.mk (show n0 ≤ gl by rw [hgl]; exact HN.out);have nm_ := Q9a.mk (Kd.R_grown (Kd.R_mono (ok' := fun k => n0 ≤ k ∧ k ≠ gl) (Kd.R_bound HM.out) (fun k hk => ⟨hk.1, by have := hk.2.2.1; omega⟩)) hg (fun _ _ => by simp));have nl_ := Q9a.mk ho;have nh_ := Q9a.mk hb;clear HB BKb HN HX HM;have HB := nh_;have BKb := nb_;have HN := nn_;have HX := nx_;have HL := nl_;have HGl := ng_;have HM := nm_;clear nh_ nb_ nn_ nx_ nl_ ng_ nm_;clear ho hb hg hnew hgl;refine hK.out _ _ ⟨(kC BKb.out 0).trans rfl, (kC BKb.out 1).trans rfl, (kC BKb.out 2).trans rfl⟩ (fun hHeld => ?_);clear hK K;refine norm_ (a' := ?_) ?_ ?_;rotate_left
  ·show Act.put _ (some 34) _ = _
   simp only [Act.put, sz1, sz2, sz3, i64_w, i32_w];rfl
  refine oT 7 29 rfl HT_.out (fun K hK => ?_);refine Kd.R_append_rows_step (Kd.int .i64) (w0 := w) w.heap.size (by rfl) (.tmp 26) (.tmp 28) 22 3 (.int .i64 0) 8 rfl Try.underlying22 info3 rfl (by decide) (by omega) vm ([] : List Int) l0_2 A0_2 l0_2.length c0_2 (fun k => n0 ≤ k ∧ k ≠ gl) (fun _ => False) rfl rfl ?aO ?aR (fun _ _ h => h) (fun _ h => h.elim) ?aF ?aB ?aS ?aL ?_
  case aR => exact Kd.cB HR.out HB.out
  case aB => exact HB.out
  case aF => exact (fun k hk => ⟨Nat.le_trans HN.out hk, by have := Kd.R_lt HL.out gl hlb; omega⟩)
  case aO => exact HM.out
  case aS => exact bZ HB.out
  case aL => have := HLen.out; simp; omega
  intro vn wn ho hb hg hat;rw [List.nil_append] at ho;have nb_ := Q9a.mk (blk_grown (g := gb) BKb.out hg (Kd.R_ne HM.out BKb.out (by decide)));have nn_ := Q9a.mk (Nat.le_trans HN.out hg.size);have nx_ := Q9a.mk (Kd.R_grown HX.out hg (fun k hk he => by have := HM.out.1 k he.symm; omega));have nl_ := Q9a.mk (Kd.R_grown HL.out hg (fun k hk he => (HM.out.1 k he.symm).2 hk));have nm_ := Q9a.mk ho;have nh_ := Q9a.mk hb;clear HB BKb HN HX HM HL;have HB := nh_;have BKb := nb_;have HN := nn_;have HX := nx_;have HM := nm_;have HL := nl_;clear nh_ nb_ nn_ nx_ nm_ nl_;clear ho hb hg hat;obtain ⟨An, cn, rfl⟩ := Kd.R_slice HM.out;refine hK.out _ _ ⟨(kC BKb.out 0).trans rfl, (kC BKb.out 1).trans rfl, (kC BKb.out 2).trans rfl⟩ (fun hHeld => ?_);clear hK K;refine norm_ (a' := ?_) ?_ ?_;rotate_left
  ·show Act.put _ (some 29) _ = _
   simp only [Act.put, sz1, sz2, sz3, i64_w, i32_w];rfl
  refine pT 8 30 rfl HT_.out ?_;refine norm_ ?_ (hc (vm, An, cn, vl) _ ⟨gl, HB, BKb, HX, HM, HL, HGl⟩);simp only [putAll, Act.put, sz1, sz2, sz3]
 skip
 refine Kd.R_make_step (Kd.int .i64) (w0 := w) w.heap.size 3 (by rfl) (N := 34) rfl 22 _ _ rfl q rfl rfl Try.underlying22 (.int .i64 0) 8 info3 rfl (by decide) (by omega) 0 (ok := fun k => k = w5.heap.size) (okp := fun k => k = w5.heap.size) rfl (fun _ hk => hk) rfl (by have := HQ.out; omega) (by have := HQ.out; omega) HB.out (bZ HB.out) ?_;intro vl wl ho hb hg hnew;obtain ⟨gl, hgl⟩ : ∃ g_ : Nat, g_ = w5.heap.size := ⟨_, rfl⟩;rw [← hgl] at ho;have hlb : (vl : Value).ownBlock = some gl := by obtain ⟨b_, e1, -⟩ := hnew; rw [e1, ho.1 b_ e1]
 have nb_ := Q9a.mk (blk_grown (g := gb) BKb.out hg (by simp));have nn_ := Q9a.mk (Nat.le_trans HN.out hg.size);have nx_ := Q9a.mk (Kd.R_grown HX.out hg (fun _ _ => by simp));have ng_ := Q9a.mk (show n0 ≤ gl by rw [hgl]; exact HN.out);have nl_ := Q9a.mk ho;have nh_ := Q9a.mk hb;clear HB BKb HN HX;have HB := nh_;have BKb := nb_;have HN := nn_;have HX := nx_;have HL := nl_;have HGl := ng_;clear nh_ nb_ nn_ nx_ nl_ ng_;clear ho hb hg hnew hgl;refine hK.out _ _ ⟨(kC BKb.out 0).trans rfl, (kC BKb.out 1).trans rfl, (kC BKb.out 2).trans rfl⟩ (fun hHeld => ?_);clear hK K;refine norm_ (a' := ?_) ?_ ?_;rotate_left
 ·show Act.put _ (some 34) _ = _
  simp only [Act.put, sz1, sz2, sz3, i64_w, i32_w];rfl
 refine oT 4 26 rfl HT_.out (fun K hK => ?_);refine Kd.R_lit_step (Kd.int .i64) (w0 := w) w.heap.size 3 (by rfl) (N := 26) ?hd (xs := ([] : List Int)) (inner := []) (ok := (fun k => n0 ≤ k ∧ k ≠ gl)) (okp := (fun k => n0 ≤ k ∧ k ≠ gl)) ?hr ?hp (fun _ hk => hk) (⟨HN.out, by have := Kd.R_lt HL.out gl hlb; omega⟩) HB.out (bZ HB.out) (by simp) ?_
 case hd => rfl
 case hr => first | (go_simp; done) | (go_simp; rfl)
 case hp => exact Reps.none _ _
 intro vm wm ho hb hg hnew;have nb_ := Q9a.mk (blk_grown (g := gb) BKb.out hg (by simp));have nn_ := Q9a.mk (Nat.le_trans HN.out hg.size);have nx_ := Q9a.mk (Kd.R_grown HX.out hg (fun _ _ => by simp));have nl_ := Q9a.mk (Kd.R_grown HL.out hg (fun _ _ => by simp));have nm_ := Q9a.mk ho;have nh_ := Q9a.mk hb;clear HB BKb HN HX HL;have HB := nh_;have BKb := nb_;have HN := nn_;have HX := nx_;have HM := nm_;have HL := nl_;clear nh_ nb_ nn_ nx_ nm_ nl_;clear ho hb hg hnew;refine hK.out _ _ ⟨(kC BKb.out 0).trans rfl, (kC BKb.out 1).trans rfl, (kC BKb.out 2).trans rfl⟩ (fun hHeld => ?_);clear hK K;refine norm_ (a' := ?_) ?_ ?_;rotate_left
 ·show Act.put _ (some 26) _ = _
  simp only [Act.put, sz1, sz2, sz3, i64_w, i32_w];rfl
 refine oT 7 29 rfl HT_.out (fun K hK => ?_);refine Kd.R_append_rows_step (Kd.int .i64) (w0 := w) w.heap.size (by rfl) (.tmp 26) (.tmp 28) 22 3 (.int .i64 0) 8 rfl Try.underlying22 info3 rfl (by decide) (by omega) vm ([] : List Int) l0_2 A0_2 l0_2.length c0_2 (fun k => n0 ≤ k ∧ k ≠ gl) (fun _ => False) rfl rfl ?aO ?aR (fun _ _ h => h) (fun _ h => h.elim) ?aF ?aB ?aS ?aL ?_
 case aR => exact Kd.cB HR.out HB.out
 case aB => exact HB.out
 case aF => exact (fun k hk => ⟨Nat.le_trans HN.out hk, by have := Kd.R_lt HL.out gl hlb; omega⟩)
 case aO => exact HM.out
 case aS => exact bZ HB.out
 case aL => have := HLen.out; simp; omega
 intro vn wn ho hb hg hat;rw [List.nil_append] at ho;have nb_ := Q9a.mk (blk_grown (g := gb) BKb.out hg (Kd.R_ne HM.out BKb.out (by decide)));have nn_ := Q9a.mk (Nat.le_trans HN.out hg.size);have nx_ := Q9a.mk (Kd.R_grown HX.out hg (fun k hk he => by have := HM.out.1 k he.symm; omega));have nl_ := Q9a.mk (Kd.R_grown HL.out hg (fun k hk he => (HM.out.1 k he.symm).2 hk));have nm_ := Q9a.mk ho;have nh_ := Q9a.mk hb;clear HB BKb HN HX HM HL;have HB := nh_;have BKb := nb_;have HN := nn_;have HX := nx_;have HM := nm_;have HL := nl_;clear nh_ nb_ nn_ nx_ nm_ nl_;clear ho hb hg hat;obtain ⟨An, cn, rfl⟩ := Kd.R_slice HM.out;refine hK.out _ _ ⟨(kC BKb.out 0).trans rfl, (kC BKb.out 1).trans rfl, (kC BKb.out 2).trans rfl⟩ (fun hHeld => ?_);clear hK K;refine norm_ (a' := ?_) ?_ ?_;rotate_left
 ·show Act.put _ (some 29) _ = _
  simp only [Act.put, sz1, sz2, sz3, i64_w, i32_w];rfl
 refine pT 8 30 rfl HT_.out ?_;refine norm_ ?_ (hc (vm, An, cn, vl) _ ⟨gl, HB, BKb, HX, HM, HL, HGl⟩);simp only [putAll, Act.put, sz1, sz2, sz3]
end
end Go.Proofs.Ytlbddjojhcgpiaa.Hand
end
-- New
section
namespace Go.Proofs.Ytlbddjojhcgpiaa.Hand
noncomputable section
open Go.RowKit Go.Proofs.Ytlbddjojhcgpiaa.P Go.Proofs.YtlbddjojhcgpiaaW.PrintWords
open Classical in
def field_New.f (P M : Int) (Mod : List Int) : Option (Option GFv × Int) :=
 if Ev (fun k => field_shape.f k P M Mod) false then some (none, 1)
 else if ∃ q, Ev (fun k => field_shape.f k P M Mod) true ∧ Ev (fun k => field_order.f k P M) q ∧ Ev (fun k => field_generator.f k P M Mod q) [] then some (none, 1)
 else if h : ∃ G : GFv, (G.F.p : Int) = P ∧ (G.F.m : Int) = M ∧ G.mod = Mod ∧ Ev (fun k => field_shape.f k P M Mod) true ∧ Ev (fun k => field_order.f k P M) (G.q : Int) ∧ Ev (fun k => field_generator.f k P M Mod (G.q : Int)) G.exp then some (some (Classical.choose h), 0)
 else none
theorem field_New.calls (a0_0 : Int) (a0_1 : Int) (A0_2 : Option Addr) (c0_2 : Nat) (l0_2 : List Int) (r1 : Option GFv) (r2 : Int) (w : World) (hr0_2 : Kd.C (Kd.int .i64) w A0_2 l0_2.length l0_2) (hc0_2 : l0_2.length ≤ c0_2) (h : field_New.f a0_0 a0_1 l0_2 = some (r1, r2)) :
  Calls Try.prog 38 #[.agg #[.int .i64 a0_0, .int .i64 a0_1, .slice A0_2 l0_2.length c0_2]] w fun e w' => ∃ b_ : Nat, e = .returned (.tuple #[gfW b_ r1, .int .i64 r2]) ∧ Below w.heap.size w w' ∧ gfOk w' b_ r1 := by
 unfold field_New.f at h
 split at h
 ·rename_i h1
  obtain ⟨k, hk⟩ := h1.rounds;have h' := Option.some.inj h;injection h' with e1 e2
  subst e1;subst e2;exact (new_bad1 a0_0 a0_1 A0_2 c0_2 l0_2 w hr0_2 hc0_2 k hk).mono fun e w' ⟨h1, h2⟩ => ⟨0, h1, h2, trivial⟩
 split at h
 ·rename_i h1
  obtain ⟨q, hs, ho, hg⟩ := h1;obtain ⟨ks, hs⟩ := hs.rounds;obtain ⟨ko, ho⟩ := ho.rounds;obtain ⟨kg, hg⟩ := hg.rounds;have h' := Option.some.inj h;injection h' with e1 e2
  subst e1;subst e2;exact (new_bad2 a0_0 a0_1 A0_2 c0_2 l0_2 w hr0_2 hc0_2 ks ko kg q hs ho hg).mono fun e w' ⟨h1, h2⟩ => ⟨0, h1, h2, trivial⟩
 split at h
 ·rename_i h1
  obtain ⟨hp, hm, hmod, hs, ho, hg⟩ := Classical.choose_spec h1;obtain ⟨ks, hs⟩ := hs.rounds;obtain ⟨ko, ho⟩ := ho.rounds;obtain ⟨kg, hg⟩ := hg.rounds;have h' := Option.some.inj h;injection h' with e1 e2
  subst e1;subst e2;exact (new_ok a0_0 a0_1 A0_2 c0_2 l0_2 w hr0_2 hc0_2 ks ko kg _ _ hp hm hmod rfl hs ho hg).mono fun e w' ⟨b, h1, h2, h3⟩ => ⟨b, h1, h2, h3⟩
 cases h
end
end Go.Proofs.Ytlbddjojhcgpiaa.Hand
end
-- Mk
section
namespace Go.Proofs.Ytlbddjojhcgpiaa.Hand
noncomputable section
open Go.RowKit Go.Proofs.Ytlbddjojhcgpiaa.P Go.Proofs.YtlbddjojhcgpiaaW.PrintWords Go.Proofs.YtlbddjojhcgpiaaW.PrintLast Go.Proofs.YtlbddjojhcgpiaaW.PrintMore
theorem made_bad (a0_0 : Int) (a0_1 : Int) (A0_2 : Option Addr) (c0_2 : Nat) (l0_2 : List Int) (w : World) (hr0_2 : Kd.C (Kd.int .i64) w A0_2 l0_2.length l0_2) (hc0_2 : l0_2.length ≤ c0_2) (ks : Nat) (c : Int) (hc : c ≠ 0) (hs : r4Check.f ks a0_0 a0_1 l0_2 = some c) :
  Calls Try.prog 11 #[.agg #[.int .i64 a0_0, .int .i64 a0_1, .slice A0_2 l0_2.length c0_2]] w fun e w' => e = .returned (.pointer none) ∧ Below w.heap.size w w' := by
 have hu24 := Try.underlying24;have hu22 := Try.underlying22;have HR := Q9a.mk hr0_2;have HC := Q9a.mk hc0_2;clear hr0_2 hc0_2;have HB := Q9a.mk (Below.refl w.heap.size w);have HS := Q9a.mk hs;clear hs;have c0b0 : (c == 0) = false := beq_eq_false_iff_ne.mpr hc;have c0b1 : (c != 0) = true := bne_iff_ne.mpr hc;go_enter Try.func11, Try.ntmps11
 go_wp2_with (first | ((with_reducible refine gD (N := 1) rfl ?_); refine bE ?hg (N := 1) ?hd (cs := #[.int .i64 a0_0, .int .i64 a0_1, .slice A0_2 l0_2.length c0_2]) (t := 24) ?hr ?_; (case hd => rfl); (case hg => rfl); (case hr => first | (go_simp; done) | (go_simp; rfl)); intro gb hg w3 hbox hb; have n0_ := Q9a.mk (bP (by repeat (first | (with_reducible first | exact HB.out | apply bA | apply bN | apply bD | refine bS ?_ GEb.out) | exact HB.out)) hb); have n1_ := Q9a.mk hbox; have n2_ := Q9a.mk (show w.heap.size ≤ gb by rw [hg]; exact bZ HB.out); clear HB; have HB := n0_; have BKb := n1_; have GEb := n2_; clear n0_ n1_ n2_ hb hbox hg; have ha0 : w3.cell? ⟨gb, 0, none⟩ = some (.int .i64 a0_0) := (kC BKb.out 0).trans rfl; have ha1 : w3.cell? ⟨gb, 1, none⟩ = some (.int .i64 a0_1) := (kC BKb.out 1).trans rfl; have ha2 : w3.cell? ⟨gb, 2, none⟩ = some (.slice A0_2 l0_2.length c0_2) := (kC BKb.out 2).trans rfl) | ((with_reducible refine gC (f := 27) rfl ?_); refine gL (some 6) rfl rfl Try.func27 (by kernel_rfl) rfl #[.agg #[.int .i64 a0_0, .int .i64 a0_1, .slice A0_2 l0_2.length c0_2]] rfl (by (try simp only [sm1, sm2, sm3]); first | done | rfl | (simp only [sm4, sm5]; rfl)) ?_; (with_reducible refine (r4Check.calls ks a0_0 a0_1 _ _ l0_2 c _ ?side1 ?side2 HS.out).mono ?_); (case side1 => exact cI HR.out HB.out); (case side2 => exact HC.out); rintro e wa ⟨rfl, hb⟩; refine ⟨_, rfl, ?_⟩; have n1_ := Q9a.mk (kB (g := gb) (o := .cells #[.int .i64 a0_0, .int .i64 a0_1, .slice A0_2 l0_2.length c0_2] 24 (0, 0)) (kI BKb.out) hb); have n2_ := Q9a.mk (bP (by repeat (first | (with_reducible first | exact HB.out | apply bA | apply bN | apply bD | refine bS ?_ GEb.out) | exact HB.out)) hb); clear BKb; clear HB; have BKb := n1_; have HB := n2_; clear n1_ n2_; (try clear hb); have hb0 : wa.cell? ⟨gb, 0, none⟩ = some (.int .i64 a0_0) := (kC BKb.out 0).trans rfl; have hb1 : wa.cell? ⟨gb, 1, none⟩ = some (.int .i64 a0_1) := (kC BKb.out 1).trans rfl; have hb2 : wa.cell? ⟨gb, 2, none⟩ = some (.slice A0_2 l0_2.length c0_2) := (kC BKb.out 2).trans rfl))
 go_ret
 exact ⟨rfl, (by repeat (first | (with_reducible first | exact HB.out | apply bA | apply bN | apply bD | refine bS ?_ GEb.out) | exact HB.out))⟩
theorem made_not (a0_0 : Int) (a0_1 : Int) (A0_2 : Option Addr) (c0_2 : Nat) (l0_2 : List Int) (w : World) (hr0_2 : Kd.C (Kd.int .i64) w A0_2 l0_2.length l0_2) (hc0_2 : l0_2.length ≤ c0_2) (ks : Nat) (o : Option GFv) (c : Int) (hc : c ≠ 0) (hs : r4Check.f ks a0_0 a0_1 l0_2 = some 0) (hn : field_New.f a0_0 a0_1 l0_2 = some (o, c)) :
  Calls Try.prog 11 #[.agg #[.int .i64 a0_0, .int .i64 a0_1, .slice A0_2 l0_2.length c0_2]] w fun e w' => e = .returned (.pointer none) ∧ Below w.heap.size w w' := by
 have hu24 := Try.underlying24;have hu22 := Try.underlying22;have HR := Q9a.mk hr0_2;have HC := Q9a.mk hc0_2;clear hr0_2 hc0_2;have HB := Q9a.mk (Below.refl w.heap.size w);have HS := Q9a.mk hs;have HN := Q9a.mk hn;clear hs hn;have c0b0 : (c == 0) = false := beq_eq_false_iff_ne.mpr hc;have c0b1 : (c != 0) = true := bne_iff_ne.mpr hc;go_enter Try.func11, Try.ntmps11
 go_wp2_with (first | ((with_reducible refine gD (N := 1) rfl ?_); refine bE ?hg (N := 1) ?hd (cs := #[.int .i64 a0_0, .int .i64 a0_1, .slice A0_2 l0_2.length c0_2]) (t := 24) ?hr ?_; (case hd => rfl); (case hg => rfl); (case hr => first | (go_simp; done) | (go_simp; rfl)); intro gb hg w3 hbox hb; have n0_ := Q9a.mk (bP (by repeat (first | (with_reducible first | exact HB.out | apply bA | apply bN | apply bD | refine bS ?_ GEb.out) | exact HB.out)) hb); have n1_ := Q9a.mk hbox; have n2_ := Q9a.mk (show w.heap.size ≤ gb by rw [hg]; exact bZ HB.out); clear HB; have HB := n0_; have BKb := n1_; have GEb := n2_; clear n0_ n1_ n2_ hb hbox hg; have ha0 : w3.cell? ⟨gb, 0, none⟩ = some (.int .i64 a0_0) := (kC BKb.out 0).trans rfl; have ha1 : w3.cell? ⟨gb, 1, none⟩ = some (.int .i64 a0_1) := (kC BKb.out 1).trans rfl; have ha2 : w3.cell? ⟨gb, 2, none⟩ = some (.slice A0_2 l0_2.length c0_2) := (kC BKb.out 2).trans rfl) | ((with_reducible refine gC (f := 27) rfl ?_); refine gL (some 6) rfl rfl Try.func27 (by kernel_rfl) rfl #[.agg #[.int .i64 a0_0, .int .i64 a0_1, .slice A0_2 l0_2.length c0_2]] rfl (by (try simp only [sm1, sm2, sm3]); first | done | rfl | (simp only [sm4, sm5]; rfl)) ?_; (with_reducible refine (r4Check.calls ks a0_0 a0_1 _ _ l0_2 0 _ ?side1 ?side2 HS.out).mono ?_); (case side1 => exact cI HR.out HB.out); (case side2 => exact HC.out); rintro e wa ⟨rfl, hb⟩; refine ⟨_, rfl, ?_⟩; have n1_ := Q9a.mk (kB (g := gb) (o := .cells #[.int .i64 a0_0, .int .i64 a0_1, .slice A0_2 l0_2.length c0_2] 24 (0, 0)) (kI BKb.out) hb); have n2_ := Q9a.mk (bP (by repeat (first | (with_reducible first | exact HB.out | apply bA | apply bN | apply bD | refine bS ?_ GEb.out) | exact HB.out)) hb); clear BKb; clear HB; have BKb := n1_; have HB := n2_; clear n1_ n2_; (try clear hb); have hb0 : wa.cell? ⟨gb, 0, none⟩ = some (.int .i64 a0_0) := (kC BKb.out 0).trans rfl; have hb1 : wa.cell? ⟨gb, 1, none⟩ = some (.int .i64 a0_1) := (kC BKb.out 1).trans rfl; have hb2 : wa.cell? ⟨gb, 2, none⟩ = some (.slice A0_2 l0_2.length c0_2) := (kC BKb.out 2).trans rfl) | ((with_reducible refine gC (f := 38) rfl ?_); refine gL (some 10) rfl rfl Try.func38 (by kernel_rfl) rfl #[.agg #[.int .i64 a0_0, .int .i64 a0_1, .slice A0_2 l0_2.length c0_2]] rfl (by (try simp only [sm1, sm2, sm3]); first | done | rfl | (simp only [sm4, sm5]; rfl)) ?_; (with_reducible refine (field_New.calls a0_0 a0_1 _ _ l0_2 o c _ ?side1 ?side2 HN.out).mono ?_); (case side1 => exact cI HR.out HB.out); (case side2 => exact HC.out); rintro e wn ⟨bn, rfl, hb, hok⟩; refine ⟨_, rfl, ?_⟩; have ok_ := Q9a.mk hok; clear hok; have n1_ := Q9a.mk (kB (g := gb) (o := .cells #[.int .i64 a0_0, .int .i64 a0_1, .slice A0_2 l0_2.length c0_2] 24 (0, 0)) (kI BKb.out) hb); have n2_ := Q9a.mk (bP (by repeat (first | (with_reducible first | exact HB.out | apply bA | apply bN | apply bD | refine bS ?_ GEb.out) | exact HB.out)) hb); clear BKb; clear HB; have BKb := n1_; have HB := n2_; clear n1_ n2_; (try clear hb); obtain ⟨vg, hvg⟩ : ∃ v_ : Value, v_ = gfW bn o := ⟨_, rfl⟩; rw [← hvg]; have hv_ := Q9a.mk hvg; clear hvg))
 go_ret
 exact ⟨rfl, (by repeat (first | (with_reducible first | exact HB.out | apply bA | apply bN | apply bD | refine bS ?_ GEb.out) | exact HB.out))⟩
theorem made_ok (a0_0 : Int) (a0_1 : Int) (A0_2 : Option Addr) (c0_2 : Nat) (l0_2 : List Int) (w : World) (hr0_2 : Kd.C (Kd.int .i64) w A0_2 l0_2.length l0_2) (hc0_2 : l0_2.length ≤ c0_2) (ks : Nat) (o : Option GFv) (hs : r4Check.f ks a0_0 a0_1 l0_2 = some 0) (hn : field_New.f a0_0 a0_1 l0_2 = some (o, 0)) :
  Calls Try.prog 11 #[.agg #[.int .i64 a0_0, .int .i64 a0_1, .slice A0_2 l0_2.length c0_2]] w fun e w' => ∃ b_ : Nat, e = .returned (gfW b_ o) ∧ Below w.heap.size w w' ∧ gfOk w' b_ o := by
 have hu24 := Try.underlying24;have hu22 := Try.underlying22;have HR := Q9a.mk hr0_2;have HC := Q9a.mk hc0_2;clear hr0_2 hc0_2;have HB := Q9a.mk (Below.refl w.heap.size w);have HS := Q9a.mk hs;have HN := Q9a.mk hn;clear hs hn;go_enter Try.func11, Try.ntmps11
 go_wp2_with (first | ((with_reducible refine gD (N := 1) rfl ?_); refine bE ?hg (N := 1) ?hd (cs := #[.int .i64 a0_0, .int .i64 a0_1, .slice A0_2 l0_2.length c0_2]) (t := 24) ?hr ?_; (case hd => rfl); (case hg => rfl); (case hr => first | (go_simp; done) | (go_simp; rfl)); intro gb hg w3 hbox hb; have n0_ := Q9a.mk (bP (by repeat (first | (with_reducible first | exact HB.out | apply bA | apply bN | apply bD | refine bS ?_ GEb.out) | exact HB.out)) hb); have n1_ := Q9a.mk hbox; have n2_ := Q9a.mk (show w.heap.size ≤ gb by rw [hg]; exact bZ HB.out); clear HB; have HB := n0_; have BKb := n1_; have GEb := n2_; clear n0_ n1_ n2_ hb hbox hg; have ha0 : w3.cell? ⟨gb, 0, none⟩ = some (.int .i64 a0_0) := (kC BKb.out 0).trans rfl; have ha1 : w3.cell? ⟨gb, 1, none⟩ = some (.int .i64 a0_1) := (kC BKb.out 1).trans rfl; have ha2 : w3.cell? ⟨gb, 2, none⟩ = some (.slice A0_2 l0_2.length c0_2) := (kC BKb.out 2).trans rfl) | ((with_reducible refine gC (f := 27) rfl ?_); refine gL (some 6) rfl rfl Try.func27 (by kernel_rfl) rfl #[.agg #[.int .i64 a0_0, .int .i64 a0_1, .slice A0_2 l0_2.length c0_2]] rfl (by (try simp only [sm1, sm2, sm3]); first | done | rfl | (simp only [sm4, sm5]; rfl)) ?_; (with_reducible refine (r4Check.calls ks a0_0 a0_1 _ _ l0_2 0 _ ?side1 ?side2 HS.out).mono ?_); (case side1 => exact cI HR.out HB.out); (case side2 => exact HC.out); rintro e wa ⟨rfl, hb⟩; refine ⟨_, rfl, ?_⟩; have n1_ := Q9a.mk (kB (g := gb) (o := .cells #[.int .i64 a0_0, .int .i64 a0_1, .slice A0_2 l0_2.length c0_2] 24 (0, 0)) (kI BKb.out) hb); have n2_ := Q9a.mk (bP (by repeat (first | (with_reducible first | exact HB.out | apply bA | apply bN | apply bD | refine bS ?_ GEb.out) | exact HB.out)) hb); clear BKb; clear HB; have BKb := n1_; have HB := n2_; clear n1_ n2_; (try clear hb); have hb0 : wa.cell? ⟨gb, 0, none⟩ = some (.int .i64 a0_0) := (kC BKb.out 0).trans rfl; have hb1 : wa.cell? ⟨gb, 1, none⟩ = some (.int .i64 a0_1) := (kC BKb.out 1).trans rfl; have hb2 : wa.cell? ⟨gb, 2, none⟩ = some (.slice A0_2 l0_2.length c0_2) := (kC BKb.out 2).trans rfl) | ((with_reducible refine gC (f := 38) rfl ?_); refine gL (some 10) rfl rfl Try.func38 (by kernel_rfl) rfl #[.agg #[.int .i64 a0_0, .int .i64 a0_1, .slice A0_2 l0_2.length c0_2]] rfl (by (try simp only [sm1, sm2, sm3]); first | done | rfl | (simp only [sm4, sm5]; rfl)) ?_; (with_reducible refine (field_New.calls a0_0 a0_1 _ _ l0_2 o 0 _ ?side1 ?side2 HN.out).mono ?_); (case side1 => exact cI HR.out HB.out); (case side2 => exact HC.out); rintro e wn ⟨bn, rfl, hb, hok⟩; refine ⟨_, rfl, ?_⟩; have ok_ := Q9a.mk hok; clear hok; have n1_ := Q9a.mk (kB (g := gb) (o := .cells #[.int .i64 a0_0, .int .i64 a0_1, .slice A0_2 l0_2.length c0_2] 24 (0, 0)) (kI BKb.out) hb); have n2_ := Q9a.mk (bP (by repeat (first | (with_reducible first | exact HB.out | apply bA | apply bN | apply bD | refine bS ?_ GEb.out) | exact HB.out)) hb); clear BKb; clear HB; have BKb := n1_; have HB := n2_; clear n1_ n2_; (try clear hb); obtain ⟨vg, hvg⟩ : ∃ v_ : Value, v_ = gfW bn o := ⟨_, rfl⟩; rw [← hvg]; have hv_ := Q9a.mk hvg; clear hvg))
 go_ret
 exact ⟨bn, by rw [hv_.out]; rfl, HB.out, ok_.out⟩
open Classical in
def l7made.f (P M : Int) (Mod : List Int) : Option (Option GFv) :=
 if ∃ c, c ≠ 0 ∧ Ev (fun k => r4Check.f k P M Mod) c then some none
 else if Ev (fun k => r4Check.f k P M Mod) 0 then (match field_New.f P M Mod with | none => none | some (o, c) => if c = 0 then some o else some none)
 else none
theorem l7made.calls (a0_0 : Int) (a0_1 : Int) (A0_2 : Option Addr) (c0_2 : Nat) (l0_2 : List Int) (r : Option GFv) (w : World) (hr0_2 : Kd.C (Kd.int .i64) w A0_2 l0_2.length l0_2) (hc0_2 : l0_2.length ≤ c0_2) (h : l7made.f a0_0 a0_1 l0_2 = some r) :
  Calls Try.prog 11 #[.agg #[.int .i64 a0_0, .int .i64 a0_1, .slice A0_2 l0_2.length c0_2]] w fun e w' => ∃ b_ : Nat, e = .returned (gfW b_ r) ∧ Below w.heap.size w w' ∧ gfOk w' b_ r := by
 unfold l7made.f at h
 split at h
 ·rename_i h1
  obtain ⟨c, hc, hk⟩ := h1;obtain ⟨k, hk⟩ := hk.rounds;obtain rfl := Option.some.inj h;exact (made_bad a0_0 a0_1 A0_2 c0_2 l0_2 w hr0_2 hc0_2 k c hc hk).mono fun e w' ⟨h1, h2⟩ => ⟨0, h1, h2, trivial⟩
 split at h
 ·rename_i h1
  obtain ⟨k, hk⟩ := h1.rounds;split at h
  ·cases h
  rename_i o c hn
  split at h
  ·rename_i hc
   subst hc;obtain rfl := Option.some.inj h;exact made_ok a0_0 a0_1 A0_2 c0_2 l0_2 w hr0_2 hc0_2 k _ hk hn
  rename_i hc
  obtain rfl := Option.some.inj h;exact (made_not a0_0 a0_1 A0_2 c0_2 l0_2 w hr0_2 hc0_2 k o c hc hk hn).mono fun e w' ⟨h1, h2⟩ => ⟨0, h1, h2, trivial⟩
 cases h
end
end Go.Proofs.Ytlbddjojhcgpiaa.Hand
end
-- D7
section
namespace Go.Proofs.Ytlbddjojhcgpiaa.Pl
open Go.RowKit Go.Proofs.Ytlbddjojhcgpiaa.P Go.Proofs.Ytlbddjojhcgpiaa.Hand Go.Proofs.YtlbddjojhcgpiaaW.PrintWords
theorem Ev.uniq {α : Type} {g : Nat → Option α} {a b : α} (h : Ev g a) (k : Ev g b) : a = b := by
 obtain ⟨K, h⟩ := h;obtain ⟨L, k⟩ := k;have h1 := h (max K L) (by omega);rw [k (max K L) (by omega)] at h1;exact (Option.some.inj h1).symm
def Is (G : GFv) (P M : Int) (mod : List Int) : Prop := (G.F.p : Int) = P ∧ (G.F.m : Int) = M ∧ G.mod = mod
theorem new_check (P M : Int) (mod : List Int) (hP : P < 9223372036854775808) :
  (field_New.f P M mod = some (none, 1) ∧ Ev (fun k => r4Check.f k P M mod) 1) ∨
  (∃ G : GFv, Is G P M mod ∧ field_New.f P M mod = some (some G, 0) ∧ Ev (fun k => r4Check.f k P M mod) 0) := by
 rcases shape_check P M mod hP with ⟨_, h1, h2⟩ | ⟨F, hF, rfl, rfl, h1, h2⟩
 ·refine Or.inl ⟨?_, h2⟩;unfold field_New.f
  rw [if_pos h1]
 have n1 : ¬ Ev (fun k => field_shape.f k (F.p : Int) (F.m : Int) mod) false := fun h => by
  have := Ev.uniq h h1
  cases this
 have ho := order_ev (F.p : Int) (F.m : Int);rw [fits_ord hF] at ho;by_cases hd : Cw.Dom (Cw.El F)
 ·rw [if_pos hd] at h2;have : Cw.Irr F := ⟨hd⟩;obtain ⟨G, e1, e2, hg⟩ := generator_field hF
  have hex : ∃ G : GFv, (G.F.p : Int) = (F.p : Int) ∧ (G.F.m : Int) = (F.m : Int) ∧ G.mod = mod ∧ Ev (fun k => field_shape.f k (F.p : Int) (F.m : Int) mod) true ∧ Ev (fun k => field_order.f k (F.p : Int) (F.m : Int)) (G.q : Int) ∧ Ev (fun k => field_generator.f k (F.p : Int) (F.m : Int) mod (G.q : Int)) G.exp := by
   subst e1;exact ⟨G, rfl, rfl, e2, h1, ho, hg⟩
  have n2 : ¬ ∃ q, Ev (fun k => field_shape.f k (F.p : Int) (F.m : Int) mod) true ∧ Ev (fun k => field_order.f k (F.p : Int) (F.m : Int)) q ∧ Ev (fun k => field_generator.f k (F.p : Int) (F.m : Int) mod q) [] := by
   rintro ⟨q, _, hq, hg'⟩;obtain rfl := Ev.uniq hq ho;have := Ev.uniq hg' hg;have h9 := congrArg List.length this;rw [G.exp_length] at h9;have := G.q_ge;rw [List.length_nil] at h9;omega
  refine Or.inr ⟨Classical.choose hex, ?_, ?_, h2⟩
  ·obtain ⟨a, b, c, _⟩ := Classical.choose_spec hex;exact ⟨a, b, c⟩
  unfold field_New.f
  rw [if_neg n1, if_neg n2, dif_pos hex]
 rw [if_neg hd] at h2;refine Or.inl ⟨?_, h2⟩;unfold field_New.f
 rw [if_neg n1, if_pos ⟨_, h1, ho, generator_none hF hd⟩]
theorem fitsG (G : GFv) : Fits G.F G.mod := ⟨G.small, G.coef, G.mod1, G.modm⟩
theorem ordG (G : GFv) : ordV (G.F.p : Int) (G.F.m : Int) = (G.q : Int) := fits_ord (fitsG G)
end Go.Proofs.Ytlbddjojhcgpiaa.Pl
end
-- E1
section
namespace Go.Proofs.Ytlbddjojhcgpiaa.Pl
open Go.RowKit Go.Proofs.Ytlbddjojhcgpiaa.P Go.Proofs.Ytlbddjojhcgpiaa.Hand Go.Proofs.YtlbddjojhcgpiaaW.PrintWords
variable {G : GFv} {P M : Int} {mod : List Int}
theorem Is.lt (h : Is G P M mod) : P < 9223372036854775808 := by
 obtain ⟨rfl, rfl, rfl⟩ := h;have := G.p_le;have := G.q_le;omega
theorem is_order04 (h : Is G P M mod) : Ev (fun k => r4Order.f k P M mod) (G.q : Int) := by
 have hlt := h.lt;obtain ⟨rfl, rfl, rfl⟩ := h;have := order04_ev (G.F.p : Int) (G.F.m : Int) G.mod hlt;rwa [ordG] at this
theorem is_is (h : Is G P M mod) (x : Int) : Ev (fun k => r4Is.f k P M mod x) (decide (G.is x)) := by
 by_cases hx : x ≥ 0
 ·refine Ev.congr (fun k => by unfold r4Is.f; rw [if_pos hx]) (Ev.bind (is_order04 h) ?_);refine Ev.congr (fun k => ?_) (Ev.now _);congr 1
  apply decide_eq_decide.2
  unfold Cw.GFv.is
  omega
 refine Ev.congr (fun k => ?_) (Ev.now _);unfold r4Is.f
 rw [if_neg hx];congr 1
 symm
 apply decide_eq_false
 unfold Cw.GFv.is
 omega
theorem is_in (h : Is G P M mod) (x : Int) : Ev (fun k => r4In.f k P M mod x) (G.inn x) := by
 refine Ev.bind (is_is h x) (Ev.congr (fun k => ?_) (Ev.now _));unfold Cw.GFv.inn
 by_cases hx : G.is x
 ·rw [decide_eq_true hx, if_pos rfl, if_pos hx]
 rw [decide_eq_false hx, if_neg (by decide), if_neg hx]
theorem inn_nat (G : GFv) (x : Int) : ∃ n : Nat, G.inn x = (n : Int) ∧ n < G.F.p ^ G.F.m ∧ G.el x = Cw.El.dec G.F n := by
 have h := G.inn_is x;obtain ⟨h1, h2⟩ := h;refine ⟨(G.inn x).toNat, by omega, ?_, rfl⟩;have : (G.q : Int) = ((G.F.p ^ G.F.m : Nat) : Int) := rfl;omega
theorem is_digits (h : Is G P M mod) (x : Int) : Ev (fun k => r4Digits.f k P M mod x) (ints (zl (G.el x))) := by
 have h1 := is_in h x;obtain ⟨n, e, hn, hel⟩ := inn_nat G x;rw [e] at h1;rw [hel];obtain ⟨rfl, rfl, rfl⟩ := h;have h2 := digits04_ev n G.F.p G.F.m (by have := G.small; omega) (by have := G.p_ge; omega) (by have := G.m_le; omega);rw [zl_dec hn] at h2;refine Ev.bind h1 (Ev.bind h2 (Ev.now _))
theorem is_value (h : Is G P M mod) (z : Cw.El G.F) : Ev (fun k => r4Value.f k P M mod (ints (zl z))) (G.num z) := by
 obtain ⟨rfl, rfl, rfl⟩ := h;have hv := value04_ev G.F.p (zl z) (G.F.m : Int) G.mod (by have := G.p_ge; omega) (by have := G.p_le; have := G.q_le; omega) (zl_lt z) (by unfold zl; rw [tab_length]; have := G.small; omega) (by unfold zl; rw [tab_length]; have := G.m_le; omega);rw [zl_code] at hv;exact hv
end Go.Proofs.Ytlbddjojhcgpiaa.Pl
end
-- E2
section
namespace Go.Proofs.Ytlbddjojhcgpiaa.Pl
open Go.RowKit Go.Proofs.Ytlbddjojhcgpiaa.P Go.Proofs.Ytlbddjojhcgpiaa.Hand Go.Proofs.YtlbddjojhcgpiaaW.PrintWords
theorem mul_val (p c a b : Nat) (hp : p ≤ 256) (hc : c < p) (ha : a < p) (hb : b < p) :
  Int.tmod (wrap64 ((c : Int) + wrap64 ((a : Int) * (b : Int)))) (p : Int) = (((c + a * b) % p : Nat) : Int) := by
 have m1 := Nat.mul_le_mul (show a ≤ 256 by omega) (show b ≤ 256 by omega);rw [← Int.natCast_mul, w64n _ (by omega), ← Int.natCast_add, w64n _ (by omega), Cw.tmod_nat]
section
variable {F : Cw.RD} {mod : List Int}
open Cw.El
def sh (n : Nat) (v : Cw.El F) : Cw.El F := (op F).act (List.replicate n 0 ++ [1]) v
theorem sh_sh (i j : Nat) (v : Cw.El F) : sh i (sh j v) = sh (i + j) v := by
 unfold sh
 rw [← Cw.act_shiftn, ← List.append_assoc, List.replicate_append_replicate]
theorem sh_add (i : Nat) (v w : Cw.El F) : sh i (v + w) = sh i v + sh i w := Cw.Op.act_add (op F) _ v w
theorem sh_smul (i : Nat) (a : Cw.Zp F.p) (v : Cw.El F) : sh i ((op F).smul a v) = (op F).smul a (sh i v) := Cw.Op.act_smul (op F) _ a v
theorem act_put {c c' : List (Cw.Zp F.p)} (n : Nat) (e : Cw.Zp F.p) (v : Cw.El F) (h : ∀ t, Cw.gd c' t = if t = n then Cw.gd c t + e else Cw.gd c t) : (op F).act c' v = (op F).act c v + (op F).smul e (sh n v) := by
 unfold sh
 rw [← Cw.act_mono (op F) n e v];have := Cw.Op.act_padd (op F) c (List.replicate n 0 ++ [e]) v;rw [← Cw.Op.act_congr (op F) (c := c') (fun t => ?_)] at this
 ·exact this
 rw [h, Cw.gd_padd, Cw.gd_shift];by_cases h1 : t = n
 ·rw [if_pos h1, if_neg (by omega), h1, Nat.sub_self, Cw.gd_zero]
 rw [if_neg h1];by_cases h2 : t < n
 ·rw [if_pos h2, Cw.add_zero]
 rw [if_neg h2, Cw.gd_ge (c := [e]) (i := t - n) (by rw [List.length_singleton]; omega), Cw.add_zero]
theorem act_take (l : List (Cw.Zp F.p)) (n : Nat) (v : Cw.El F) : (op F).act (l.take (n + 1)) v = (op F).act (l.take n) v + (op F).smul (Cw.gd l n) (sh n v) := by
 refine act_put n _ v (fun t => ?_)
 have e : ∀ k, Cw.gd (l.take k) t = if t < k then Cw.gd l t else 0 := fun k => by
  unfold Cw.gd
  rw [List.getD_eq_getElem?_getD, List.getD_eq_getElem?_getD, List.getElem?_take];by_cases h : t < k
  ·rw [if_pos h, if_pos h]
  rw [if_neg h, if_neg h]; rfl
 rw [e, e];by_cases h1 : t = n
 ·rw [if_pos h1, if_pos (by omega), if_neg (by omega), h1, Cw.zero_add]
 rw [if_neg h1];by_cases h2 : t < n
 ·rw [if_pos h2, if_pos (by omega)]
 rw [if_neg h2, if_neg (by omega)]
theorem gd_lst' (X : Cw.El F) (i : Nat) : Cw.gd X.lst i = X.c i := Cw.El.gd_lst X i
def put (p a b n : Nat) (h : Nat → Nat) : Nat → Nat := fun t => if t = n then (h t + a * b) % p else h t
theorem put_lt {p a b n : Nat} {h : Nat → Nat} (hp : 0 < p) (hh : ∀ t, h t < p) : ∀ t, put p a b n h t < p := by
 intro t;unfold put
 by_cases h1 : t = n
 ·rw [if_pos h1]; exact Nat.mod_lt _ hp
 rw [if_neg h1]; exact hh t
theorem conv_inner (hF : Fits F mod) (X Y : Cw.El F) (i : Nat) (hi : i < F.m) (R : Int)
  (H : ∀ h : Nat → Nat, (∀ t, h t < F.p) → (op F).act (zl' F.p (2 * F.m - 1) h) 1 = (op F).act (X.lst.take (i + 1)) Y → Ev (fun k => r4Mul.l0 k (ints (zl X)) (ints (zl Y)) (ints (tab (2 * F.m - 1) h)) ((i + 1 : Nat) : Int) (F.p : Int) (F.m : Int) mod) R) : ∀ (e j : Nat) (h : Nat → Nat), j + e = F.m → (∀ t, h t < F.p) →
  (op F).act (zl' F.p (2 * F.m - 1) h) 1 = (op F).act (X.lst.take i) Y + (op F).smul (X.c i) (sh i ((op F).act (Y.lst.take j) 1)) →
  Ev (fun k => r4Mul.l1 k (ints (zl X)) (ints (zl Y)) (ints (tab (2 * F.m - 1) h)) (i : Int) (j : Int) (F.p : Int) (F.m : Int) mod) R := by
 intro e;have hm := hF.m_le;have hp := hF.p_le;have hp2 := F.prm.1;induction e with
 | zero =>
  intro j h hj hh ha;obtain rfl : j = F.m := by omega
  have hi1 : wrap64 ((i : Int) + 1) = ((i + 1 : Nat) : Int) := by rw [w64 (by omega) (by omega)]; rfl
  refine Ev.step (fun k => ?_) (H h hh ?_)
  ·simp only [r4Mul.l1];rw [if_neg (by omega), hi1]
  have e1 : Y.lst.take F.m = Y.lst := List.take_of_length_le (by rw [lst_length]; omega);rw [ha, e1, lst_one, act_take, gd_lst']
 | succ e ih =>
  intro j h hj hh ha;have hjm : j < F.m := by omega
  have hn : i + j < 2 * F.m - 1 := by omega
  have hij : wrap64 ((i : Int) + (j : Int)) = ((i + j : Nat) : Int) := by rw [w64 (by omega) (by omega)]; rfl
  have hj1 : wrap64 ((j : Int) + 1) = ((j + 1 : Nat) : Int) := by rw [w64 (by omega) (by omega)]; rfl
  have c1 : (j : Int) < (F.m : Int) := by omega
  have c2 : (0 : Int) ≤ ((i + j : Nat) : Int) := by omega
  have c3 : ((i + j : Nat) : Int) < ((2 * F.m - 1 : Nat) : Int) := by omega
  have c4 : (0 : Int) ≤ (i : Int) := by omega
  have c5 : (i : Int) < (F.m : Int) := by omega
  have c6 : (0 : Int) ≤ (j : Int) := by omega
  have c7 : ¬ (F.p : Int) = 0 := by omega
  refine Ev.step (fun k => ?_) (ih (j + 1) (put F.p (X.c i).v (Y.c j).v (i + j) h) (by omega) (put_lt (by omega) hh) ?_)
  ·have hl9 : ((ints (tab (2 * F.m - 1) h)).length : Int) = ((2 * F.m - 1 : Nat) : Int) := by rw [ints_length, tab_length]
   have hlX : ((ints (zl X)).length : Int) = (F.m : Int) := by unfold zl; rw [ints_length, tab_length]
   have hlY : ((ints (zl Y)).length : Int) = (F.m : Int) := by unfold zl; rw [ints_length, tab_length]
   have k9 := Int.lt_of_lt_of_le c3 (Int.le_of_eq hl9.symm);have kX := Int.lt_of_lt_of_le c5 (Int.le_of_eq hlX.symm);have kY := Int.lt_of_lt_of_le c1 (Int.le_of_eq hlY.symm);have r9 : rd (ints (tab (2 * F.m - 1) h)) ((i + j : Nat) : Int) = (h (i + j) : Int) := rd_tab _ hn;have rX : rd (ints (zl X)) (i : Int) = ((X.c i).v : Int) := rd_tab _ hi;have rY : rd (ints (zl Y)) (j : Int) = ((Y.c j).v : Int) := rd_tab _ hjm
   have hset : ints (tab (2 * F.m - 1) (fun t => if t = i + j then (h (i + j) + (X.c i).v * (Y.c j).v) % F.p else h t)) = ints (tab (2 * F.m - 1) (put F.p (X.c i).v (Y.c j).v (i + j) h)) := by
    congr 1
    apply tab_congr
    intro t _;unfold put
    by_cases ht : t = i + j
    ·rw [if_pos ht, if_pos ht, ht]
    rw [if_neg ht, if_neg ht]
   simp only [r4Mul.l1];rw [if_pos c1, hij, if_pos c2, if_pos k9, if_pos c4, if_pos kX, if_pos c6, if_pos kY, if_neg c7, r9, rX, rY, mul_val F.p _ _ _ hp (hh _) (zp_lt _) (zp_lt _), hj1, Int.toNat_natCast, set_tab _ _ hn, hset]
  have e1 : (op F).act (zl' F.p (2 * F.m - 1) (put F.p (X.c i).v (Y.c j).v (i + j) h)) 1 = (op F).act (zl' F.p (2 * F.m - 1) h) 1 + (op F).smul (X.c i * Y.c j) (sh (i + j) 1) := by
   refine act_put (i + j) _ 1 (fun t => ?_);rw [gd_zl', gd_zl'];unfold put
   by_cases ht : t = i + j
   ·rw [if_pos ht, if_pos ht, ht, if_pos hn, if_pos hn, Int.natCast_emod, Cw.zi_emod, Int.natCast_add, Int.natCast_mul, Cw.zi_add, Cw.zi_mul, Cw.zi_of, Cw.zi_of]
   rw [if_neg ht, if_neg ht]
  rw [e1, ha, act_take, gd_lst', sh_add, sh_smul, sh_sh];have e2 : (op F).smul (X.c i) (sh i ((op F).act (Y.lst.take j) 1) + (op F).smul (Y.c j) (sh (i + j) 1)) = (op F).smul (X.c i) (sh i ((op F).act (Y.lst.take j) 1)) + (op F).smul (X.c i) ((op F).smul (Y.c j) (sh (i + j) 1)) := (op F).smul_add _ _ _;rw [e2, ← (op F).mul_smul, Cw.add_assoc]
theorem conv_outer (hF : Fits F mod) (X Y : Cw.El F) (R : Int)
  (H : ∀ h : Nat → Nat, (∀ t, h t < F.p) → (op F).act (zl' F.p (2 * F.m - 1) h) 1 = X * Y → Ev (fun k => r4Mul.l2 k (ints (tab (2 * F.m - 1) h)) (wrap64 (wrap64 (2 * (F.m : Int)) - 2)) (F.p : Int) (F.m : Int) mod) R) : ∀ (e i : Nat) (h : Nat → Nat), i + e = F.m → (∀ t, h t < F.p) →
  (op F).act (zl' F.p (2 * F.m - 1) h) 1 = (op F).act (X.lst.take i) Y →
  Ev (fun k => r4Mul.l0 k (ints (zl X)) (ints (zl Y)) (ints (tab (2 * F.m - 1) h)) (i : Int) (F.p : Int) (F.m : Int) mod) R := by
 intro e;induction e with
 | zero =>
  intro i h hi hh ha;obtain rfl : i = F.m := by omega
  refine Ev.step (fun k => ?_) (H h hh ?_)
  ·simp only [r4Mul.l0];rw [if_neg (by omega)]
  rw [ha, List.take_of_length_le (by rw [lst_length]; omega), Cw.mul_comm X Y, mul_def]
 | succ e ih =>
  intro i h hi hh ha
  have hin := conv_inner hF X Y i (by omega) R (fun h' hh' ha' => ih (i + 1) h' (by omega) hh' ha') F.m 0 h (by omega) hh (by
   rw [List.take_zero, Cw.Op.act_nil];have e1 : sh i (op F).zero = (op F).zero := Cw.Op.act_zero (op F) _;rw [e1, Cw.Op.smul_zero, ha];exact (Cw.Op.add_zero (op F) _).symm)
  refine Ev.step (fun k => ?_) hin;simp only [r4Mul.l0];rw [if_pos (by omega)];rfl
theorem red_inner (hF : Fits F mod) (hm1 : F.m ≠ 1) (i : Nat) (hi : F.m ≤ i) (hin : i < 2 * F.m - 1) (h : Nat → Nat) (hh : ∀ t, h t < F.p) (R : Int)
  (H : Ev (fun k => r4Mul.l2 k (ints (tab (2 * F.m - 1) (stp F.p F.m i F.m h (fun t => (F.f t).toNat)))) ((i : Int) - 1) (F.p : Int) (F.m : Int) mod) R) : ∀ (e j : Nat), j + e = F.m →
  Ev (fun k => r4Mul.l3 k (ints (tab (2 * F.m - 1) (stp F.p F.m i j h (fun t => (F.f t).toNat)))) (i : Int) (j : Int) (F.p : Int) (F.m : Int) mod) R := by
 intro e;have hm := hF.m_le;have hp := hF.p_le;have hp2 := F.prm.1;obtain ⟨hml, hmd⟩ := hF.modm hm1;induction e with
 | zero =>
  intro j hj;obtain rfl : j = F.m := by omega
  refine Ev.step (fun k => ?_) H;simp only [r4Mul.l3];rw [if_neg (by omega), w64 (n := (i : Int) - 1) (by omega) (by omega)]
 | succ e ih =>
  intro j hj;have hjm : j < F.m := by omega
  have hid : wrap64 (wrap64 ((i : Int) - (F.m : Int)) + (j : Int)) = ((i - F.m + j : Nat) : Int) := by
   rw [w64 (n := (i : Int) - (F.m : Int)) (by omega) (by omega), w64 (by omega) (by omega)]; omega
  have hj1 : wrap64 ((j : Int) + 1) = ((j + 1 : Nat) : Int) := by rw [w64 (by omega) (by omega)]; rfl
  have hn : i - F.m + j < 2 * F.m - 1 := by omega
  have c1 : (j : Int) < (F.m : Int) := by omega
  have c2 : (0 : Int) ≤ ((i - F.m + j : Nat) : Int) := by omega
  have c3 : ((i - F.m + j : Nat) : Int) < ((2 * F.m - 1 : Nat) : Int) := by omega
  have c4 : (0 : Int) ≤ (i : Int) := by omega
  have c5 : (i : Int) < ((2 * F.m - 1 : Nat) : Int) := by omega
  have c6 : (0 : Int) ≤ (j : Int) := by omega
  have c7 : ¬ (F.p : Int) = 0 := by omega
  have c8 : (j : Int) < (mod.length : Int) := by omega
  have n1 : ¬ (i - F.m + j < i - F.m + j) := by omega
  have n2 : ¬ (i < i - F.m + j) := by omega
  have fj := hF.coef j;have fjn : F.f j = (((F.f j).toNat : Nat) : Int) := by omega
  have fjp : (F.f j).toNat < F.p := by omega
  have hset : ints (tab (2 * F.m - 1) (fun t => if t = i - F.m + j then (h (i - F.m + j) + (F.p - h i) * (F.f j).toNat) % F.p else stp F.p F.m i j h (fun t => (F.f t).toNat) t)) = ints (tab (2 * F.m - 1) (stp F.p F.m i (j + 1) h (fun t => (F.f t).toNat))) := by
   congr 1
   apply tab_congr
   intro t _;unfold stp
   by_cases ht : t = i - F.m + j
   ·rw [if_pos ht, if_pos (by omega), ht, show i - F.m + j - (i - F.m) = j by omega]
   rw [if_neg ht];by_cases h2 : i - F.m ≤ t ∧ t < i - F.m + j
   ·rw [if_pos h2, if_pos (by omega)]
   rw [if_neg h2, if_neg (by omega)]
  refine Ev.step (fun k => ?_) (ih (j + 1) (by omega));have hl9 : ((ints (tab (2 * F.m - 1) (stp F.p F.m i j h (fun t => (F.f t).toNat)))).length : Int) = ((2 * F.m - 1 : Nat) : Int) := by rw [ints_length, tab_length]
  have k9 := Int.lt_of_lt_of_le c3 (Int.le_of_eq hl9.symm);have k5 := Int.lt_of_lt_of_le c5 (Int.le_of_eq hl9.symm)
  have r9 : rd (ints (tab (2 * F.m - 1) (stp F.p F.m i j h (fun t => (F.f t).toNat)))) ((i - F.m + j : Nat) : Int) = (h (i - F.m + j) : Int) := by
   rw [rd_tab _ hn];unfold stp
   rw [if_neg (fun hh => n1 hh.2)]
  have r5 : rd (ints (tab (2 * F.m - 1) (stp F.p F.m i j h (fun t => (F.f t).toNat)))) (i : Int) = (h i : Int) := by
   rw [rd_tab _ hin];unfold stp
   rw [if_neg (fun hh => n2 hh.2)]
  have rm : rd mod (j : Int) = (((F.f j).toNat : Nat) : Int) := by unfold rd; rw [Int.toNat_natCast, hmd j hjm]; exact fjn
  simp only [r4Mul.l3];rw [if_pos c1, hid, if_pos c2, if_pos k9, if_pos c4, if_pos k5, if_pos c6, if_pos c8, if_neg c7, r9, r5, rm, div_val F.p _ _ _ hp (Nat.lt_of_lt_of_le (by decide) hp2) (hh _) (hh _) fjp, hj1, Int.toNat_natCast, set_tab _ _ hn, hset]
def cut (n : Nat) (h : Nat → Nat) : Nat → Nat := fun t => if t < n then h t else 0
theorem red_outer (hF : Fits F mod) (Z : Cw.El F) : ∀ (e : Nat) (h : Nat → Nat) (E : List (Cw.Zp F.p)), F.m + e ≤ 2 * F.m - 1 → (∀ t, h t < F.p) →
  (∃ G : List (Cw.Zp F.p), (op F).act G 1 = Z ∧ Cw.DivRel G (md F) E (zl' F.p (2 * F.m - 1) (cut (F.m + e) h))) →
  Ev (fun k => r4Mul.l2 k (ints (tab (2 * F.m - 1) h)) (((F.m + e : Nat) : Int) - 1) (F.p : Int) (F.m : Int) mod) (Z.code : Int) := by
 intro e;have hm := hF.m_le;have hmp := F.mpos;have hp := hF.p_le;have hp2 := F.prm.1
 have hmd : md F = zl' F.p F.m (fun t => (F.f t).toNat) ++ [1] := by
  unfold md zl'
  congr 1
  refine List.map_congr_left (fun t _ => ?_);have := hF.coef t;congr 1
  show F.f t = (((F.f t).toNat : Nat) : Int)
  omega
 induction e with
 | zero =>
  intro h E he hh hG;obtain ⟨G, hG1, hG2⟩ := hG
  have hz : Z = vec (zl' F.p F.m h) := by
   have h1 := hG2 _ (op F) 1;have h0 : (op F).act E 0 = 0 := Cw.Op.act_zero (op F) E;rw [act_md, h0, hG1] at h1;have h2 : Z = (op F).act (zl' F.p (2 * F.m - 1) (cut (F.m + 0) h)) 1 := h1.trans ((op F).zero_add _);rw [h2, ← act_one (zl' F.p F.m h) (by simp [zl'])];refine Cw.Op.act_congr (op F) (fun t => ?_) 1;rw [gd_zl', gd_zl'];unfold cut
   by_cases ht : t < F.m
   ·rw [if_pos (by omega), if_pos (by omega), if_pos ht]
   rw [if_neg ht];by_cases ht2 : t < 2 * F.m - 1
   ·rw [if_pos ht2, if_neg (by omega)]; rfl
   rw [if_neg ht2]
  have hzl : zl Z = tab F.m h := by
   rw [← zl_eq, hz, lst_vec (by simp [zl'])];unfold zl' tab
   rw [List.map_map];refine List.map_congr_left (fun t _ => ?_);show (Cw.zi (h t : Int) : Cw.Zp F.p).v = h t
   rw [Cw.zi_nat_v, Nat.mod_eq_of_lt (hh t)]
  have htake : (ints (tab (2 * F.m - 1) h)).take F.m = ints (zl Z) := by
   rw [hzl];unfold ints tab
   rw [← List.map_take, ← List.map_take, List.take_range, Nat.min_eq_left (by omega)]
  have hv := value04_ev F.p (zl Z) (F.m : Int) mod (by omega) (by omega) (zl_lt Z) (by unfold zl; rw [tab_length]; have := hF.small; omega) (by unfold zl; rw [tab_length]; omega);rw [zl_code] at hv;refine Ev.step (f := fun k => (r4Value.f k (F.p : Int) (F.m : Int) mod (ints (zl Z))).bind fun t => some t) (fun k => ?_) (Ev.bind hv (Ev.now _));have c1 : ¬ ((F.m + 0 : Nat) : Int) - 1 ≥ (F.m : Int) := by omega
  have c2 : (0 : Int) ≤ (F.m : Int) := by omega
  have c3 : (F.m : Int) ≤ ((2 * F.m - 1 : Nat) : Int) := by omega
  have hl9 : ((ints (tab (2 * F.m - 1) h)).length : Int) = ((2 * F.m - 1 : Nat) : Int) := by rw [ints_length, tab_length]
  have k3 := Int.le_trans c3 (Int.le_of_eq hl9.symm);simp only [r4Mul.l2];rw [if_neg c1, if_pos c2, if_pos k3, Int.toNat_natCast, htake]
 | succ e ih =>
  intro h E he hh hG;obtain ⟨G, hG1, hG2⟩ := hG;have hm1 : F.m ≠ 1 := by omega
  have hin : F.m + e < 2 * F.m - 1 := by omega
  have hh' : ∀ t, stp F.p F.m (F.m + e) F.m h (fun t => (F.f t).toNat) t < F.p := by
   intro t;unfold stp
   by_cases h1 : F.m + e - F.m ≤ t ∧ t < F.m + e - F.m + F.m
   ·rw [if_pos h1]; exact Nat.mod_lt _ (by omega)
   rw [if_neg h1]; exact hh t
  rw [hmd] at hG2;have hci : cut (F.m + (e + 1)) h (F.m + e) = h (F.m + e) := by unfold cut; rw [if_pos (by omega)]
  have hs := div_step (E := E) (G := G) (n := 2 * F.m - 1) (d := F.m) (i := F.m + e) (low := fun t => (F.f t).toNat) (g := cut (F.m + (e + 1)) h) (g' := cut (F.m + e) (stp F.p F.m (F.m + e) F.m h (fun t => (F.f t).toNat))) (by omega) hin hG2 (fun t ht => by
   rw [hci];unfold cut stp
   by_cases h1 : t = F.m + e
   ·rw [if_neg (by omega), if_pos h1]; rfl
   rw [if_neg h1];by_cases h2 : F.m + e - F.m ≤ t ∧ t < F.m + e
   ·rw [if_pos (by omega), if_pos (by omega), if_pos h2, if_pos (by omega)];have hgi := hh (F.m + e);rw [Int.natCast_emod, Cw.zi_emod, Int.natCast_add, Int.natCast_mul, Cw.zi_add, Cw.zi_mul, show ((F.p - h (F.m + e) : Nat) : Int) = (F.p : Int) + -(h (F.m + e) : Int) by omega, Cw.zi_add, Cw.zi_p, Cw.zero_add, Cw.zi_neg, Cw.neg_mul]
   rw [if_neg h2];by_cases h3 : t < F.m + e
   ·rw [if_pos h3, if_neg (by omega), if_pos (by omega)]
   rw [if_neg h3, if_neg (by omega)])
  rw [← hmd] at hs;have hi := ih (stp F.p F.m (F.m + e) F.m h (fun t => (F.f t).toNat)) _ (by omega) hh' ⟨G, hG1, hs⟩;have hin2 := red_inner hF hm1 (F.m + e) (by omega) hin h hh _ hi F.m 0 (by omega);refine Ev.step (fun k => ?_) hin2;have hx : ((F.m + (e + 1) : Nat) : Int) - 1 = ((F.m + e : Nat) : Int) := by omega
  simp only [r4Mul.l2];rw [hx, if_pos (by omega)];congr 2
  apply tab_congr
  intro t _;unfold stp
  rw [if_neg (by omega)]
theorem mul04_fits (hF : Fits F mod) (X Y : Cw.El F) :
  Ev (fun k => r4Mul.l0 k (ints (zl X)) (ints (zl Y)) (List.replicate (2 * F.m - 1) 0) 0 (F.p : Int) (F.m : Int) mod) ((X * Y).code : Int) := by
 have hm := hF.m_le;have hmp := F.mpos;have hp2 := F.prm.1
 have h0 : List.replicate (2 * F.m - 1) (0 : Int) = ints (tab (2 * F.m - 1) (fun _ => 0)) := by
  rw [ints_zero];congr 1
  unfold tab
  rw [List.map_const', List.length_range]
 rw [h0];refine conv_outer hF X Y _ (fun h hh ha => ?_) F.m 0 (fun _ => 0) (by omega) (fun _ => by omega) ?_
 ·have hr := red_outer hF (X * Y) (F.m - 1) h [] (by omega) hh ⟨zl' F.p (2 * F.m - 1) h, ha, (Cw.DivRel.start _ _).congr (fun t => by
   rw [gd_zl', gd_zl'];unfold cut
   by_cases ht : t < 2 * F.m - 1
   ·rw [if_pos ht, if_pos ht, if_pos (by omega)]
   rw [if_neg ht, if_neg ht])⟩
  refine Ev.congr (fun k => ?_) hr;congr 1
  rw [w64 (n := 2 * (F.m : Int)) (by omega) (by omega), w64 (by omega) (by omega)];omega
 rw [List.take_zero, Cw.Op.act_nil];refine Cw.Op.act_of_zero (op F) (fun t => ?_) 1;rw [gd_zl'];by_cases ht : t < 2 * F.m - 1
 ·rw [if_pos ht]; rfl
 rw [if_neg ht]
end
theorem is_mul {G : GFv} {P M : Int} {mod : List Int} (h : Is G P M mod) (x y : Int) : Ev (fun k => r4Mul.f k P M mod x y) (G.mul x y) := by
 have h1 := is_digits h x;have h2 := is_digits h y;obtain ⟨rfl, rfl, rfl⟩ := h;have h3 := mul04_fits (fitsG G) (G.el x) (G.el y);have hm := G.m_le;have hmp := G.m_pos;refine Ev.bind h1 (Ev.bind h2 (Ev.congr (fun k => ?_) h3))
 have e1 : wrap64 (wrap64 (2 * (G.F.m : Int)) - 1) = ((2 * G.F.m - 1 : Nat) : Int) := by
  rw [w64 (n := 2 * (G.F.m : Int)) (by omega) (by omega), w64 (by omega) (by omega)]; omega
 rw [e1, if_pos (by omega), if_pos (by omega), Int.toNat_natCast]
end Go.Proofs.Ytlbddjojhcgpiaa.Pl
end
-- E3
section
namespace Go.Proofs.Ytlbddjojhcgpiaa.Pl
open Go.RowKit Go.Proofs.Ytlbddjojhcgpiaa.P Go.Proofs.Ytlbddjojhcgpiaa.Hand Go.Proofs.YtlbddjojhcgpiaaW.PrintWords
variable {G : GFv} {P M : Int} {mod : List Int}
theorem mul_num (G : GFv) (a b : Cw.El G.F) : G.mul (G.num a) (G.num b) = G.num (a * b) := by
 unfold Cw.GFv.mul
 rw [G.el_num, G.el_num]
theorem pow_loop (h : Is G P M mod) (X : Cw.El G.F) (N : Nat) (hN : N ≤ 256) : ∀ e i, i + e = N → Ev (fun k => r4Pow.l0 k (G.num X) (N : Int) (G.num (Cw.pw X i)) (i : Int) P M mod) (G.num (Cw.pw X N), 0) := by
 intro e;induction e with
 | zero =>
  intro i hi;obtain rfl : i = N := by omega
  refine Ev.step (f := fun _ => some _) (fun k => ?_) (Ev.now _);simp only [r4Pow.l0];rw [if_neg (by omega)]
 | succ e ih =>
  intro i hi;have hm := is_mul h (G.num (Cw.pw X i)) (G.num X);rw [mul_num, ← Cw.pw_succ] at hm;have hi1 : wrap64 ((i : Int) + 1) = ((i + 1 : Nat) : Int) := by rw [w64 (by omega) (by omega)]; rfl
  refine Ev.step (fun k => by simp only [r4Pow.l0]; rw [if_pos (by omega)]) (Ev.bind hm ?_);rw [hi1];exact ih (i + 1) (by omega)
theorem tmod_two (n k : Int) (hk : 0 < k) (hk2 : k ≤ 256) : Int.tmod (wrap64 (Int.tmod n k + k)) k = n % k := by
 have h1 := Int.emod_nonneg n (show k ≠ 0 by omega);have h2 := Int.emod_lt_of_pos n hk
 have e : Int.tmod n k = n % k ∨ Int.tmod n k = n % k - k := by
  rw [Int.tmod_eq_emod];split
  ·left; omega
  right; omega
 rcases e with e | e
 ·rw [e, w64 (by omega) (by omega), Int.tmod_eq_emod_of_nonneg (by omega), Int.add_emod_right]; exact Int.emod_emod_of_dvd n (Int.dvd_refl k)
 rw [e, w64 (by omega) (by omega), Int.tmod_eq_emod_of_nonneg (by omega), Int.sub_add_cancel]; exact Int.emod_emod_of_dvd n (Int.dvd_refl k)
theorem is_pow (h : Is G P M mod) (x n : Int) : Ev (fun k => r4Pow.f k P M mod x n) (G.pow x n) := by
 have h1 := is_in h x;unfold Cw.GFv.pow
 refine Ev.bind h1 ?_;by_cases hn : n = 0
 ·rw [if_pos hn];exact Ev.congr (fun k => if_pos hn) (Ev.now _)
 rw [if_neg hn];by_cases hx : G.el x = 0
 ·have hi : G.inn x = 0 := G.el_eq_zero.1 hx;rw [if_pos hx];refine Ev.congr (fun k => by rw [if_neg hn, if_pos hi]) (Ev.step (f := fun _ => some _) (fun k => ?_) (Ev.now _));simp only [r4Pow.j0];by_cases h0 : n < 0
  ·rw [if_pos (decide_eq_true h0), if_pos h0]
  rw [if_neg (by rw [decide_eq_true_iff]; exact h0), if_pos hi, if_neg h0]
 have hi : ¬ G.inn x = 0 := fun e => hx (G.el_eq_zero.2 e)
 rw [if_neg hx];have hq2 := G.q_ge;have hq := G.q_le;have hk : wrap64 ((G.q : Int) - 1) = ((G.q - 1 : Nat) : Int) := by rw [w64 (by omega) (by omega)]; omega
 have hk0 : ¬ ((G.q - 1 : Nat) : Int) = 0 := by omega
 refine Ev.congr (fun k => by rw [if_neg hn, if_neg hi]) ?_;refine Ev.step (fun k => by simp only [r4Pow.j0]; rw [if_neg (by decide), if_neg hi]) (Ev.bind (is_order04 h) ?_);have hm0 := Int.emod_nonneg n hk0;have hm1 := Int.emod_lt_of_pos n (show (0 : Int) < ((G.q - 1 : Nat) : Int) by omega);have hl := pow_loop h (G.el x) ((n % ((G.q - 1 : Nat) : Int)).toNat) (by omega) _ 0 (Nat.zero_add _);refine Ev.congr (fun k => ?_) hl;rw [hk, if_neg hk0, tmod_two _ _ (by omega) (by omega), Int.toNat_of_nonneg hm0, Cw.pw_zero, G.num_one, G.num_el];rfl
end Go.Proofs.Ytlbddjojhcgpiaa.Pl
end
-- E4
section
namespace Go.Proofs.Ytlbddjojhcgpiaa.Pl
open Go.RowKit Go.Proofs.Ytlbddjojhcgpiaa.P Go.Proofs.Ytlbddjojhcgpiaa.Hand Go.Proofs.YtlbddjojhcgpiaaW.PrintWords
variable {G : GFv} {P M : Int} {mod : List Int}
theorem c_add_v {F : Cw.RD} (x y : Cw.El F) (j : Nat) : ((x + y).c j).v = ((x.c j).v + (y.c j).v) % F.p := by
 rw [Cw.El.c_add, Cw.El.add_v]
theorem add_loop (h : Is G P M mod) (x y : Cw.El G.F) : ∀ e j, j + e = G.F.m →
  Ev (fun k => r4Add.l0 k (ints (tab G.F.m (fun t => if t < j then ((x + y).c t).v else (x.c t).v))) (ints (zl y)) (j : Int) P M mod) (G.num (x + y)) := by
 intro e;have hv := is_value h (x + y);obtain ⟨rfl, rfl, rfl⟩ := h;have hm := G.m_le;have hp := G.p_le;have hq := G.q_le;have hp2 := G.p_ge;induction e with
 | zero =>
  intro j hj;obtain rfl : j = G.F.m := by omega
  have e1 : tab G.F.m (fun t => if t < G.F.m then ((x + y).c t).v else (x.c t).v) = zl (x + y) := tab_congr (fun t ht => by rw [if_pos ht]);have hl9 : ((ints (zl (x + y))).length : Int) = (G.F.m : Int) := by unfold zl; rw [ints_length, tab_length]
  rw [e1];refine Ev.step (fun k => ?_) (Ev.bind hv (Ev.now _));have c1 : ¬ (G.F.m : Int) < ((ints (zl (x + y))).length : Int) := by rw [hl9]; exact Int.lt_irrefl _
  simp only [r4Add.l0];rw [if_neg c1]
 | succ e ih =>
  intro j hj;have hjm : j < G.F.m := by omega
  have c1 : (j : Int) < (G.F.m : Int) := by omega
  have c2 : (0 : Int) ≤ (j : Int) := by omega
  have c3 : ¬ (G.F.p : Int) = 0 := by omega
  have hj1 : wrap64 ((j : Int) + 1) = ((j + 1 : Nat) : Int) := by rw [w64 (by omega) (by omega)]; rfl
  have hjj : ¬ j < j := Nat.lt_irrefl _
  have hset : ints (tab G.F.m (fun t => if t = j then ((x.c j).v + (y.c j).v) % G.F.p else (fun t => if t < j then ((x + y).c t).v else (x.c t).v) t)) = ints (tab G.F.m (fun t => if t < j + 1 then ((x + y).c t).v else (x.c t).v)) := by
   congr 1
   apply tab_congr
   intro t _;by_cases h1 : t = j
   ·rw [if_pos h1, if_pos (by omega), h1, c_add_v]
   rw [if_neg h1];by_cases h2 : t < j
   ·simp only [];rw [if_pos h2, if_pos (by omega)]
   simp only [];rw [if_neg h2, if_neg (by omega)]
  have a1 := zp_lt (x.c j);have a2 := zp_lt (y.c j)
  have hval : Int.tmod (wrap64 (((x.c j).v : Int) + ((y.c j).v : Int))) (G.F.p : Int) = ((((x.c j).v + (y.c j).v) % G.F.p : Nat) : Int) := by
   generalize (x.c j).v = u at a1;generalize (y.c j).v = v at a2;rw [← Int.natCast_add, w64n _ (by omega), Cw.tmod_nat]
  refine Ev.step (fun k => ?_) (ih (j + 1) (by omega));have hl9 : ((ints (tab G.F.m (fun t => if t < j then ((x + y).c t).v else (x.c t).v))).length : Int) = (G.F.m : Int) := by rw [ints_length, tab_length]
  have hlY : ((ints (zl y)).length : Int) = (G.F.m : Int) := by unfold zl; rw [ints_length, tab_length]
  have k9 := Int.lt_of_lt_of_le c1 (Int.le_of_eq hl9.symm);have kY := Int.lt_of_lt_of_le c1 (Int.le_of_eq hlY.symm)
  have r9 : rd (ints (tab G.F.m (fun t => if t < j then ((x + y).c t).v else (x.c t).v))) (j : Int) = ((x.c j).v : Int) := by
   rw [rd_tab _ hjm, if_neg hjj]
  have rY : rd (ints (zl y)) (j : Int) = ((y.c j).v : Int) := rd_tab _ hjm;simp only [r4Add.l0];rw [if_pos k9, if_pos c2, if_pos kY, if_neg c3, r9, rY, hval, hj1, Int.toNat_natCast, set_tab _ _ hjm, hset]
theorem is_add (h : Is G P M mod) (x y : Int) : Ev (fun k => r4Add.f k P M mod x y) (G.add x y) := by
 have hl := add_loop h (G.el x) (G.el y) G.F.m 0 (by omega);refine Ev.bind (is_digits h x) (Ev.bind (is_digits h y) (Ev.congr (fun k => ?_) hl));congr 2
end Go.Proofs.Ytlbddjojhcgpiaa.Pl
end
