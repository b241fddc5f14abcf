/- What dlogSound_holds needs: texts Fn, New, Op, LS1, D7, Q2, Oc, PureLS, put together. -/
import Derived.Test.YtbohbfggmnjpdaaKLS10
import Derived.Lib.LazyBuf
set_option linter.unusedVariables false
set_option linter.unusedSimpArgs false
-- Fn
section
namespace Go.Proofs.Ytbohbfggmnjpdaa.Hand
noncomputable section
open Go.RowKit Go.Proofs.Ytbohbfggmnjpdaa.P Go.Proofs.YtbohbfggmnjpdaaW.PrintWords Go.Proofs.YtbohbfggmnjpdaaW.PrintLast Go.Proofs.YtbohbfggmnjpdaaW.PrintMore
attribute [local go_sem] run_eql_slice_nil
theorem getD_at {l : List Int} {i : Nat} (h : i < l.length) : l.getD i 0 = l[i] := by
  rw [List.getD_eq_getElem?_getD, List.getElem?_eq_getElem h]; rfl
def fill : List Int → Nat → List Int → List Int
  | L, _, [] => L
  | L, n, x :: xs => fill (L.set x.toNat (n : Int)) (n + 1) xs
theorem drop_exp (G : GFv) {j : Nat} (h : j < G.q - 1) : G.exp.drop j = G.num (Cw.pw G.gen j) :: G.exp.drop (j + 1) := by
  have hl : j < G.exp.length := by rw [G.exp_length]; exact h
  rw [List.drop_eq_getElem_cons hl]
  congr 1
  have := G.exp_at h
  rwa [getD_at hl] at this
theorem fill_inv (G : GFv) (d : Nat) : ∀ (j : Nat) (L : List Int), j + d = G.q - 1 → L.length = G.q → (∀ x, x < G.q → L.getD x 0 = if G.lg (Cw.El.dec G.F x) < j then (G.lg (Cw.El.dec G.F x) : Int) else 0) → fill L j (G.exp.drop j) = G.log := by
  induction d with
  | zero =>
    intro j L hj hL h
    rw [List.drop_eq_nil_of_le (by rw [G.exp_length]; omega)]
    show L = G.log
    apply List.ext_getElem (by rw [hL, G.log_length])
    intro i h1 h2
    have a := h i (by omega)
    have b := G.log_at (x := i) (by omega)
    have c := G.lg_lt (Cw.El.dec G.F i)
    rw [if_pos (by omega), ← b, getD_at h1, getD_at h2] at a
    exact a
  | succ d ih =>
    intro j L hj hL h
    have hj' : j < G.q - 1 := by omega
    rw [drop_exp G hj']
    show fill (L.set (G.num (Cw.pw G.gen j)).toNat (j : Int)) (j + 1) (G.exp.drop (j + 1)) = G.log
    refine ih (j + 1) _ (by omega) (by rw [List.length_set]; exact hL) ?_
    intro x hx
    have hX : (G.num (Cw.pw G.gen j)).toNat = (Cw.pw G.gen j).code := by unfold Cw.GFv.num; exact Int.toNat_natCast _
    rw [hX]
    have hxe : (Cw.El.dec G.F x).code = x := Cw.El.code_dec hx
    by_cases hc : (Cw.pw G.gen j).code = x
    · have e : Cw.El.dec G.F x = Cw.pw G.gen j := by rw [← hc, Cw.El.dec_code]
      rw [e, G.lg_pw hj', if_pos (by omega), hc, getD_at (by rw [List.length_set]; omega), List.getElem_set_self]
    · have hs : (L.set (Cw.pw G.gen j).code (j : Int)).getD x 0 = L.getD x 0 := by
        rw [getD_at (by rw [List.length_set]; omega), List.getElem_set_ne hc, getD_at (by omega)]
      rw [hs, h x hx]
      by_cases h0 : Cw.El.dec G.F x = 0
      · rw [h0, G.lg_zero]
        simp
      · have hsp := G.lg_spec h0
        have hne : G.lg (Cw.El.dec G.F x) ≠ j := by
          intro e
          apply hc
          rw [← hxe, ← hsp.2, e]
        by_cases hlt : G.lg (Cw.El.dec G.F x) < j
        · rw [if_pos hlt, if_pos (by omega)]
        · rw [if_neg hlt, if_neg (by omega)]
theorem fill_all (G : GFv) : fill (List.replicate ((G.q : Int)).toNat 0) (0 : Int).toNat (G.exp.drop (0 : Int).toNat) = G.log := by
  refine fill_inv G (G.q - 1) 0 _ (by omega) (by rw [List.length_replicate]; exact Int.toNat_natCast _) ?_
  intro x hx
  rw [if_neg (by omega), getD_at (by rw [List.length_replicate]; omega), List.getElem_replicate]
theorem exp_is (G : GFv) {i : Int} (h0 : 0 ≤ i) (h1 : i < (G.exp.length : Int)) : 0 ≤ rd G.exp i ∧ rd G.exp i < (G.q : Int) := by
  rw [G.exp_length] at h1
  obtain ⟨j, rfl⟩ := Int.eq_ofNat_of_zero_le h0
  rw [rd_exp G (by omega)]
  exact G.num_is _
theorem fill_step (G : GFv) (L : List Int) {i : Int} (h0 : 0 ≤ i) (h1 : i < (G.exp.length : Int)) : fill L i.toNat (G.exp.drop i.toNat) = fill (L.set (rd G.exp i).toNat i) (i + 1).toNat (G.exp.drop (i + 1).toNat) := by
  rw [G.exp_length] at h1
  obtain ⟨j, rfl⟩ := Int.eq_ofNat_of_zero_le h0
  rw [rd_exp G (by omega), show ((j : Int) + 1).toNat = j + 1 by omega, Int.toNat_natCast, drop_exp G (by omega)]
  rfl
set_option maxHeartbeats 8000000 in
set_option maxRecDepth 100000 in
theorem new_bad1 (a0_0 : Int) (a0_1 : Int) (A0_2 : Option Addr) (c0_2 : Nat) (l0_2 : List Int) (w : World) (hr0_2 : Kd.C (Kd.int .i64) w A0_2 l0_2.length l0_2) (hc0_2 : l0_2.length ≤ c0_2) (ks : Nat) (hs : field_shape.f ks a0_0 a0_1 l0_2 = some false) :
    Calls Try.prog 38 #[.agg #[.int .i64 a0_0, .int .i64 a0_1, .slice A0_2 l0_2.length c0_2]] w fun e w' => e = .returned (.tuple #[.pointer none, .int .i64 1]) ∧ Below w.heap.size w w' := by
  have hu24 := Try.underlying24
  have hu22 := Try.underlying22
  have HR := Aside0.mk hr0_2
  have HC := Aside0.mk hc0_2
  clear hr0_2 hc0_2
  have HB := Aside0.mk (Below.refl w.heap.size w)
  have HS := Aside0.mk hs
  clear hs
  go_enter Try.func38, Try.ntmps38
  go_wp2_with (first | ((with_reducible refine gate_dst (N := 1) rfl ?_); refine box_event ?hg (N := 1) ?hd (cs := #[.int .i64 a0_0, .int .i64 a0_1, .slice A0_2 l0_2.length c0_2]) (t := 24) ?hr ?_; (case hd => rfl); (case hg => rfl); (case hr => first | (go_simp; done) | (go_simp; rfl)); intro gb hg w3 hbox hb; have n0_ := Aside0.mk (below_step (by repeat (first | (with_reducible first | exact HB.out | apply below_alloc | apply pw_below_drewN | apply below_drew1 | refine below_set ?_ GEb.out) | exact HB.out)) hb); have n1_ := Aside0.mk hbox; have n2_ := Aside0.mk (show w.heap.size ≤ gb by rw [hg]; exact below_size HB.out); clear HB; have HB := n0_; have BKb := n1_; have GEb := n2_; clear n0_ n1_ n2_ hb hbox hg; have ha0 : w3.cell? ⟨gb, 0, none⟩ = some (.int .i64 a0_0) := (blk_cell BKb.out 0).trans rfl; have ha1 : w3.cell? ⟨gb, 1, none⟩ = some (.int .i64 a0_1) := (blk_cell BKb.out 1).trans rfl; have ha2 : w3.cell? ⟨gb, 2, none⟩ = some (.slice A0_2 l0_2.length c0_2) := (blk_cell BKb.out 2).trans rfl) | ((with_reducible refine gate_callee (f := 57) rfl ?_); refine goesL_ (some 10) rfl rfl Try.func57 (by kernel_rfl) rfl #[.agg #[.int .i64 a0_0, .int .i64 a0_1, .slice A0_2 l0_2.length c0_2]] rfl (by (try simp only [List.map_toArray, List.map_cons, List.map_nil]); first | done | rfl | (simp only [List.length_drop, List.length_take]; rfl)) ?_; (with_reducible refine (field_shape.calls ks a0_0 a0_1 _ _ l0_2 false _ ?side1 ?side2 HS.out).mono ?_); (case side1 => repeat (first | exact (Kd.C_below HR.out HB.out) | (with_reducible refine Kd.C_alloc ?_ _) | (with_reducible refine Kd.C_drewN ?_ _) | (with_reducible refine Kd.C_drew ?_))); (case side2 => exact HC.out); rintro e wa ⟨rfl, hb⟩; refine ⟨_, rfl, ?_⟩; have n1_ := Aside0.mk (blk_below (g := gb) (o := .cells #[.int .i64 a0_0, .int .i64 a0_1, .slice A0_2 l0_2.length c0_2] 24 (0, 0)) (by (with_reducible repeat (first | refine blk_drewN ?_ _ | refine blk_drew ?_ | refine blk_alloc ?_ _)); exact BKb.out) hb); have n2_ := Aside0.mk (below_step (by repeat (first | (with_reducible first | exact HB.out | apply below_alloc | apply pw_below_drewN | apply below_drew1 | refine below_set ?_ GEb.out) | exact HB.out)) hb); clear BKb; clear HB; have BKb := n1_; have HB := n2_; clear n1_ n2_; (try clear hb); have hb0 : wa.cell? ⟨gb, 0, none⟩ = some (.int .i64 a0_0) := (blk_cell BKb.out 0).trans rfl; have hb1 : wa.cell? ⟨gb, 1, none⟩ = some (.int .i64 a0_1) := (blk_cell BKb.out 1).trans rfl; have hb2 : wa.cell? ⟨gb, 2, none⟩ = some (.slice A0_2 l0_2.length c0_2) := (blk_cell BKb.out 2).trans rfl))
  go_ret2
  exact ⟨rfl, (by repeat (first | (with_reducible first | exact HB.out | apply below_alloc | apply pw_below_drewN | apply below_drew1 | refine below_set ?_ GEb.out) | exact HB.out))⟩
set_option maxHeartbeats 8000000 in
set_option maxRecDepth 100000 in
theorem new_bad2 (a0_0 : Int) (a0_1 : Int) (A0_2 : Option Addr) (c0_2 : Nat) (l0_2 : List Int) (w : World) (hr0_2 : Kd.C (Kd.int .i64) w A0_2 l0_2.length l0_2) (hc0_2 : l0_2.length ≤ c0_2) (ks ko kg : Nat) (q : Int) (hs : field_shape.f ks a0_0 a0_1 l0_2 = some true) (ho : field_order.f ko a0_0 a0_1 = some q) (hg : field_generator.f kg a0_0 a0_1 l0_2 q = some []) :
    Calls Try.prog 38 #[.agg #[.int .i64 a0_0, .int .i64 a0_1, .slice A0_2 l0_2.length c0_2]] w fun e w' => e = .returned (.tuple #[.pointer none, .int .i64 1]) ∧ Below w.heap.size w w' := by
  have hu24 := Try.underlying24
  have hu22 := Try.underlying22
  have HR := Aside0.mk hr0_2
  have HC := Aside0.mk hc0_2
  clear hr0_2 hc0_2
  have HB := Aside0.mk (Below.refl w.heap.size w)
  have HS := Aside0.mk hs
  have HO := Aside0.mk ho
  have HG := Aside0.mk hg
  clear hs ho hg
  go_enter Try.func38, Try.ntmps38
  go_wp2_with (first | ((with_reducible refine gate_dst (N := 1) rfl ?_); refine box_event ?hg (N := 1) ?hd (cs := #[.int .i64 a0_0, .int .i64 a0_1, .slice A0_2 l0_2.length c0_2]) (t := 24) ?hr ?_; (case hd => rfl); (case hg => rfl); (case hr => first | (go_simp; done) | (go_simp; rfl)); intro gb hg w3 hbox hb; have n0_ := Aside0.mk (below_step (by repeat (first | (with_reducible first | exact HB.out | apply below_alloc | apply pw_below_drewN | apply below_drew1 | refine below_set ?_ GEb.out) | exact HB.out)) hb); have n1_ := Aside0.mk hbox; have n2_ := Aside0.mk (show w.heap.size ≤ gb by rw [hg]; exact below_size HB.out); clear HB; have HB := n0_; have BKb := n1_; have GEb := n2_; clear n0_ n1_ n2_ hb hbox hg; have ha0 : w3.cell? ⟨gb, 0, none⟩ = some (.int .i64 a0_0) := (blk_cell BKb.out 0).trans rfl; have ha1 : w3.cell? ⟨gb, 1, none⟩ = some (.int .i64 a0_1) := (blk_cell BKb.out 1).trans rfl; have ha2 : w3.cell? ⟨gb, 2, none⟩ = some (.slice A0_2 l0_2.length c0_2) := (blk_cell BKb.out 2).trans rfl) | ((with_reducible refine gate_callee (f := 57) rfl ?_); refine goesL_ (some 10) rfl rfl Try.func57 (by kernel_rfl) rfl #[.agg #[.int .i64 a0_0, .int .i64 a0_1, .slice A0_2 l0_2.length c0_2]] rfl (by (try simp only [List.map_toArray, List.map_cons, List.map_nil]); first | done | rfl | (simp only [List.length_drop, List.length_take]; rfl)) ?_; (with_reducible refine (field_shape.calls ks a0_0 a0_1 _ _ l0_2 true _ ?side1 ?side2 HS.out).mono ?_); (case side1 => repeat (first | exact (Kd.C_below HR.out HB.out) | (with_reducible refine Kd.C_alloc ?_ _) | (with_reducible refine Kd.C_drewN ?_ _) | (with_reducible refine Kd.C_drew ?_))); (case side2 => exact HC.out); rintro e wa ⟨rfl, hb⟩; refine ⟨_, rfl, ?_⟩; have n1_ := Aside0.mk (blk_below (g := gb) (o := .cells #[.int .i64 a0_0, .int .i64 a0_1, .slice A0_2 l0_2.length c0_2] 24 (0, 0)) (by (with_reducible repeat (first | refine blk_drewN ?_ _ | refine blk_drew ?_ | refine blk_alloc ?_ _)); exact BKb.out) hb); have n2_ := Aside0.mk (below_step (by repeat (first | (with_reducible first | exact HB.out | apply below_alloc | apply pw_below_drewN | apply below_drew1 | refine below_set ?_ GEb.out) | exact HB.out)) hb); clear BKb; clear HB; have BKb := n1_; have HB := n2_; clear n1_ n2_; (try clear hb); have hb0 : wa.cell? ⟨gb, 0, none⟩ = some (.int .i64 a0_0) := (blk_cell BKb.out 0).trans rfl; have hb1 : wa.cell? ⟨gb, 1, none⟩ = some (.int .i64 a0_1) := (blk_cell BKb.out 1).trans rfl; have hb2 : wa.cell? ⟨gb, 2, none⟩ = some (.slice A0_2 l0_2.length c0_2) := (blk_cell BKb.out 2).trans rfl) | ((with_reducible refine gate_callee (f := 58) rfl ?_); refine goesL_ (some 16) rfl rfl Try.func58 (by kernel_rfl) rfl #[.int .i64 a0_0, .int .i64 a0_1] rfl (by (try simp only [List.map_toArray, List.map_cons, List.map_nil]); first | done | rfl | (simp only [List.length_drop, List.length_take]; rfl)) ?_; (with_reducible refine (field_order.calls ko a0_0 a0_1 q _ HO.out).mono ?_); rintro e w' ⟨rfl, ⟨nd, rfl⟩⟩; refine ⟨_, rfl, ?_⟩) | ((with_reducible refine gate_callee (f := 59) rfl ?_); refine goesL_ (some 19) rfl rfl Try.func59 (by kernel_rfl) rfl #[.agg #[.int .i64 a0_0, .int .i64 a0_1, .slice A0_2 l0_2.length c0_2], .int .i64 q] rfl (by (try simp only [List.map_toArray, List.map_cons, List.map_nil]); first | done | rfl | (simp only [List.length_drop, List.length_take]; rfl)) ?_; (with_reducible refine (field_generator.callsN kg a0_0 a0_1 _ _ l0_2 q [] _ ?side1 ?side2 HG.out).mono ?_); (case side1 => repeat (first | exact (Kd.C_below HR.out HB.out) | (with_reducible refine Kd.C_alloc ?_ _) | (with_reducible refine Kd.C_drewN ?_ _) | (with_reducible refine Kd.C_drew ?_))); (case side2 => exact HC.out); rintro e wg ⟨vx, rfl, hnil, ho0, hb⟩; refine ⟨_, rfl, ?_⟩; have nx_ := Aside0.mk (Kd.R_lower ho0 (below_size (by repeat (first | (with_reducible first | exact HB.out | apply below_alloc | apply pw_below_drewN | apply below_drew1 | refine below_set ?_ GEb.out) | exact HB.out)))); have n1_ := Aside0.mk (blk_below (g := gb) (o := .cells #[.int .i64 a0_0, .int .i64 a0_1, .slice A0_2 l0_2.length c0_2] 24 (0, 0)) (by (with_reducible repeat (first | refine blk_drewN ?_ _ | refine blk_drew ?_ | refine blk_alloc ?_ _)); exact BKb.out) hb); have n2_ := Aside0.mk (below_step (by repeat (first | (with_reducible first | exact HB.out | apply below_alloc | apply pw_below_drewN | apply below_drew1 | refine below_set ?_ GEb.out) | exact HB.out)) hb); clear BKb; clear HB; have BKb := n1_; have HB := n2_; clear n1_ n2_; (try clear hb); have HX := nx_; clear nx_ ho0; obtain rfl := hnil rfl; have hd0 : wg.cell? ⟨gb, 0, none⟩ = some (.int .i64 a0_0) := (blk_cell BKb.out 0).trans rfl; have hd1 : wg.cell? ⟨gb, 1, none⟩ = some (.int .i64 a0_1) := (blk_cell BKb.out 1).trans rfl; have hd2 : wg.cell? ⟨gb, 2, none⟩ = some (.slice A0_2 l0_2.length c0_2) := (blk_cell BKb.out 2).trans rfl))
  go_ret2
  exact ⟨rfl, (by repeat (first | (with_reducible first | exact HB.out | apply below_alloc | apply pw_below_drewN | apply below_drew1 | refine below_set ?_ GEb.out) | exact HB.out))⟩
def field_New.T7 : Bool × List (List Nat × List Nat) := (true, [([], []), ([0], [0]), ([], []), ([2], [2]), ([], []), ([], []), ([5], [5]), ([4, 6], [4, 6]), ([1, 3, 7], [1, 3, 7]), ([], []), ([], []), ([], []), ([11, 11], [11]), ([8, 9, 10, 12], [8, 9, 10, 12]), ([13], [13]), ([14, 7, 0, 1, 2, 3, 4, 5, 6, 7, 8, 9, 10, 11, 12, 13, 14], [14])])
def field_New.B7 : List Nat := [0, 1, 0, 4, 0, 0, 32, 112, 255, 0, 0, 0, 2048, 8191, 16383, 32767]
theorem field_New.tab7 : rtab .any (opsOf Try.f38 7) = field_New.T7 := by kernel_rfl
theorem field_New.bits7 : waitsOk field_New.T7.2 field_New.B7 = true := by kernel_rfl
set_option maxHeartbeats 8000000 in
set_option maxRecDepth 100000 in
theorem new_ok (a0_0 : Int) (a0_1 : Int) (A0_2 : Option Addr) (c0_2 : Nat) (l0_2 : List Int) (w : World) (hr0_2 : Kd.C (Kd.int .i64) w A0_2 l0_2.length l0_2) (hc0_2 : l0_2.length ≤ c0_2) (ks ko kg : Nat) (q : Int) (G : GFv) (hp : (G.F.p : Int) = a0_0) (hm : (G.F.m : Int) = a0_1) (hmod : G.mod = l0_2) (hq : (G.q : Int) = q) (hs : field_shape.f ks a0_0 a0_1 l0_2 = some true) (ho : field_order.f ko a0_0 a0_1 = some q) (hg : field_generator.f kg a0_0 a0_1 l0_2 q = some G.exp) :
    Calls Try.prog 38 #[.agg #[.int .i64 a0_0, .int .i64 a0_1, .slice A0_2 l0_2.length c0_2]] w fun e w' => ∃ b_ : Nat, e = .returned (.tuple #[.pointer (some ⟨b_, 0, none⟩), .int .i64 0]) ∧ Below w.heap.size w w' ∧ GFok w' b_ G := by
  have hu24 := Try.underlying24
  have hu22 := Try.underlying22
  have HR := Aside0.mk hr0_2
  have HC := Aside0.mk hc0_2
  clear hr0_2 hc0_2
  have HB := Aside0.mk (Below.refl w.heap.size w)
  have HS := Aside0.mk hs
  have HO := Aside0.mk ho
  have HG := Aside0.mk hg
  have hexp := exp_len G
  have hqle := G.q_le
  have hqge := G.q_ge
  have hmlen := G.mod_len
  have HQ := Aside0.mk (show 2 ≤ q ∧ q ≤ 256 by omega)
  have HLen := Aside0.mk (show l0_2.length ≤ 8 by rw [← hmod]; exact hmlen)
  have HE := Aside0.mk (show 0 < G.exp.length ∧ (G.exp.length : Int) = q - 1 by omega)
  clear hs ho hg hexp hqle hqge hmlen
  go_enter Try.func38, Try.ntmps38
  go_upto_region 7 with (first | ((with_reducible refine gate_dst (N := 1) rfl ?_); refine box_event ?hg (N := 1) ?hd (cs := #[.int .i64 a0_0, .int .i64 a0_1, .slice A0_2 l0_2.length c0_2]) (t := 24) ?hr ?_; (case hd => rfl); (case hg => rfl); (case hr => first | (go_simp; done) | (go_simp; rfl)); intro gb hg w3 hbox hb; have n0_ := Aside0.mk (below_step (by repeat (first | (with_reducible first | exact HB.out | apply below_alloc | apply pw_below_drewN | apply below_drew1 | refine below_set ?_ GEb.out) | exact HB.out)) hb); have n1_ := Aside0.mk hbox; have n2_ := Aside0.mk (show w.heap.size ≤ gb by rw [hg]; exact below_size HB.out); clear HB; have HB := n0_; have BKb := n1_; have GEb := n2_; clear n0_ n1_ n2_ hb hbox hg; have ha0 : w3.cell? ⟨gb, 0, none⟩ = some (.int .i64 a0_0) := (blk_cell BKb.out 0).trans rfl; have ha1 : w3.cell? ⟨gb, 1, none⟩ = some (.int .i64 a0_1) := (blk_cell BKb.out 1).trans rfl; have ha2 : w3.cell? ⟨gb, 2, none⟩ = some (.slice A0_2 l0_2.length c0_2) := (blk_cell BKb.out 2).trans rfl) | ((with_reducible refine gate_callee (f := 57) rfl ?_); refine goesL_ (some 10) rfl rfl Try.func57 (by kernel_rfl) rfl #[.agg #[.int .i64 a0_0, .int .i64 a0_1, .slice A0_2 l0_2.length c0_2]] rfl (by (try simp only [List.map_toArray, List.map_cons, List.map_nil]); first | done | rfl | (simp only [List.length_drop, List.length_take]; rfl)) ?_; (with_reducible refine (field_shape.calls ks a0_0 a0_1 _ _ l0_2 true _ ?side1 ?side2 HS.out).mono ?_); (case side1 => repeat (first | exact (Kd.C_below HR.out HB.out) | (with_reducible refine Kd.C_alloc ?_ _) | (with_reducible refine Kd.C_drewN ?_ _) | (with_reducible refine Kd.C_drew ?_))); (case side2 => exact HC.out); rintro e wa ⟨rfl, hb⟩; refine ⟨_, rfl, ?_⟩; have n1_ := Aside0.mk (blk_below (g := gb) (o := .cells #[.int .i64 a0_0, .int .i64 a0_1, .slice A0_2 l0_2.length c0_2] 24 (0, 0)) (by (with_reducible repeat (first | refine blk_drewN ?_ _ | refine blk_drew ?_ | refine blk_alloc ?_ _)); exact BKb.out) hb); have n2_ := Aside0.mk (below_step (by repeat (first | (with_reducible first | exact HB.out | apply below_alloc | apply pw_below_drewN | apply below_drew1 | refine below_set ?_ GEb.out) | exact HB.out)) hb); clear BKb; clear HB; have BKb := n1_; have HB := n2_; clear n1_ n2_; (try clear hb); have hb0 : wa.cell? ⟨gb, 0, none⟩ = some (.int .i64 a0_0) := (blk_cell BKb.out 0).trans rfl; have hb1 : wa.cell? ⟨gb, 1, none⟩ = some (.int .i64 a0_1) := (blk_cell BKb.out 1).trans rfl; have hb2 : wa.cell? ⟨gb, 2, none⟩ = some (.slice A0_2 l0_2.length c0_2) := (blk_cell BKb.out 2).trans rfl) | ((with_reducible refine gate_callee (f := 58) rfl ?_); refine goesL_ (some 16) rfl rfl Try.func58 (by kernel_rfl) rfl #[.int .i64 a0_0, .int .i64 a0_1] rfl (by (try simp only [List.map_toArray, List.map_cons, List.map_nil]); first | done | rfl | (simp only [List.length_drop, List.length_take]; rfl)) ?_; (with_reducible refine (field_order.calls ko a0_0 a0_1 q _ HO.out).mono ?_); rintro e w' ⟨rfl, ⟨nd, rfl⟩⟩; refine ⟨_, rfl, ?_⟩) | ((with_reducible refine gate_callee (f := 59) rfl ?_); refine goesL_ (some 19) rfl rfl Try.func59 (by kernel_rfl) rfl #[.agg #[.int .i64 a0_0, .int .i64 a0_1, .slice A0_2 l0_2.length c0_2], .int .i64 q] rfl (by (try simp only [List.map_toArray, List.map_cons, List.map_nil]); first | done | rfl | (simp only [List.length_drop, List.length_take]; rfl)) ?_; (with_reducible refine (field_generator.callsN kg a0_0 a0_1 _ _ l0_2 q G.exp _ ?side1 ?side2 HG.out).mono ?_); (case side1 => repeat (first | exact (Kd.C_below HR.out HB.out) | (with_reducible refine Kd.C_alloc ?_ _) | (with_reducible refine Kd.C_drewN ?_ _) | (with_reducible refine Kd.C_drew ?_))); (case side2 => exact HC.out); rintro e wg ⟨vx, rfl, hnil, ho0, hb⟩; refine ⟨_, rfl, ?_⟩; have nx_ := Aside0.mk (Kd.R_lower ho0 (below_size (by repeat (first | (with_reducible first | exact HB.out | apply below_alloc | apply pw_below_drewN | apply below_drew1 | refine below_set ?_ GEb.out) | exact HB.out)))); have n1_ := Aside0.mk (blk_below (g := gb) (o := .cells #[.int .i64 a0_0, .int .i64 a0_1, .slice A0_2 l0_2.length c0_2] 24 (0, 0)) (by (with_reducible repeat (first | refine blk_drewN ?_ _ | refine blk_drew ?_ | refine blk_alloc ?_ _)); exact BKb.out) hb); have n2_ := Aside0.mk (below_step (by repeat (first | (with_reducible first | exact HB.out | apply below_alloc | apply pw_below_drewN | apply below_drew1 | refine below_set ?_ GEb.out) | exact HB.out)) hb); clear BKb; clear HB; have BKb := n1_; have HB := n2_; clear n1_ n2_; (try clear hb); have HX := nx_; clear nx_ ho0; obtain ⟨gx, cx, hfx, -⟩ := Kd.R_form HX.out HE.out.1; subst hfx; clear hnil; have hd0 : wg.cell? ⟨gb, 0, none⟩ = some (.int .i64 a0_0) := (blk_cell BKb.out 0).trans rfl; have hd1 : wg.cell? ⟨gb, 1, none⟩ = some (.int .i64 a0_1) := (blk_cell BKb.out 1).trans rfl; have hd2 : wg.cell? ⟨gb, 2, none⟩ = some (.slice A0_2 l0_2.length c0_2) := (blk_cell BKb.out 2).trans rfl))
  obtain ⟨n0, hn0⟩ : ∃ n_ : Nat, n_ = wg.heap.size := ⟨_, rfl⟩
  have nx_ := Aside0.mk (Kd.R_drew (Kd.R_mono (ok' := fun k => k < n0) (Kd.R_bound HX.out) (fun k hk => by have := hk.2.2.1; omega)))
  have nb_ := Aside0.mk (blk_drew BKb.out)
  have nh_ := Aside0.mk (below_drew1 HB.out)
  have nn_ := Aside0.mk (show n0 ≤ wg.drew.heap.size by rw [hn0]; exact Nat.le_refl _)
  clear HX BKb HB hn0
  have HX := nx_
  have BKb := nb_
  have HB := nh_
  have HN := nn_
  clear nx_ nb_ nh_ nn_
  refine start_ (n := 16) (S := fun w' => w'.cell? ⟨gb, 0, none⟩ = some (.int .i64 a0_0) ∧ w'.cell? ⟨gb, 1, none⟩ = some (.int .i64 a0_1) ∧ w'.cell? ⟨gb, 2, none⟩ = some (.slice A0_2 l0_2.length c0_2)) (ds := []) #[false, false, false, false, false, false, false, false, false, false, false, false, false, false, false, false] (by kernel_rfl) rfl rfl ⟨(blk_cell BKb.out 0).trans rfl, (blk_cell BKb.out 1).trans rfl, (blk_cell BKb.out 2).trans rfl⟩ (fun hHeld => ?_); refine with_tabW field_New.tab7 field_New.bits7 (fun HT_ HW_ => ?_)
  generalize wg.drew = w5 at HX BKb HB HN hHeld ⊢
  refine pure_ (i := 0) (N := some 22) (v := ?_) (a' := ?_) #[true, false, false, false, false, false, false, false, false, false, false, false, false, false, false, false] rfl rfl (any_of HT_.out (by kernel_rfl)) (fun _ _ _ h => h) (Or.inl ⟨by rfl, ?_⟩) ?_ ?_
  rotate_left
  · intro w'
    go_simp
    with_reducible rfl
  rotate_left
  · simp only [Act.put, List.setIfInBounds_toArray, List.set_cons_zero, List.set_cons_succ, i64_w, i32_w]
    rfl
  refine pure_ (i := 2) (N := some 24) (v := ?_) (a' := ?_) #[true, false, true, false, false, false, false, false, false, false, false, false, false, false, false, false] rfl rfl (any_of HT_.out (by kernel_rfl)) (fun _ _ _ h => h) (Or.inl ⟨by rfl, ?_⟩) ?_ ?_
  rotate_left
  · intro w'
    go_simp
    with_reducible rfl
  rotate_left
  · simp only [Act.put, List.setIfInBounds_toArray, List.set_cons_zero, List.set_cons_succ, i64_w, i32_w]
    rfl
  refine pure_ (i := 5) (N := some 27) (v := ?_) (a' := ?_) #[true, false, true, false, false, true, false, false, false, false, false, false, false, false, false, false] rfl rfl (any_of HT_.out (by kernel_rfl)) (fun _ _ _ h => h) (Or.inl ⟨by rfl, ?_⟩) ?_ ?_
  rotate_left
  · intro w'
    go_simp
    with_reducible rfl
  rotate_left
  · simp only [Act.put, List.setIfInBounds_toArray, List.set_cons_zero, List.set_cons_succ, i64_w, i32_w]
    rfl
  refine pure_ (i := 9) (N := some 31) (v := ?_) (a' := ?_) #[true, false, true, false, false, true, false, false, false, true, false, false, false, false, false, false] rfl rfl (any_of HT_.out (by kernel_rfl)) (fun _ _ _ h => h) (Or.inl ⟨by rfl, ?_⟩) ?_ ?_
  rotate_left
  · intro w'
    go_simp
    with_reducible rfl
  rotate_left
  · simp only [Act.put, List.setIfInBounds_toArray, List.set_cons_zero, List.set_cons_succ, i64_w, i32_w]
    rfl
  refine pure_ (i := 10) (N := some 32) (v := ?_) (a' := ?_) #[true, false, true, false, false, true, false, false, false, true, true, false, false, false, false, false] rfl rfl (any_of HT_.out (by kernel_rfl)) (fun _ _ _ h => h) (Or.inl ⟨by rfl, ?_⟩) ?_ ?_
  rotate_left
  · intro w'
    go_simp
    with_reducible rfl
  rotate_left
  · simp only [Act.put, List.setIfInBounds_toArray, List.set_cons_zero, List.set_cons_succ, i64_w, i32_w]
    rfl
  refine pure_ (i := 11) (N := some 33) (v := ?_) (a' := ?_) #[true, false, true, false, false, true, false, false, false, true, true, true, false, false, false, false] rfl rfl (any_of HT_.out (by kernel_rfl)) (fun _ _ _ h => h) (Or.inl ⟨by rfl, ?_⟩) ?_ ?_
  rotate_left
  · intro w'
    go_simp
    with_reducible rfl
  rotate_left
  · simp only [Act.put, List.setIfInBounds_toArray, List.set_cons_zero, List.set_cons_succ, i64_w, i32_w]
    rfl
  refine take_ (i := 1) (N := some 23) (v := ?_) (a' := ?_) #[true, true, true, false, false, true, false, false, false, true, true, true, false, false, false, false] rfl rfl (take_ofW HT_.out HW_.out (by kernel_rfl)) (fun _ _ _ h => h) (Or.inl ⟨by rfl, ?_⟩) hHeld ?_ ?_
  rotate_left
  · rintro w' ⟨s0, s1, s2⟩
    go_simp
    with_reducible rfl
  rotate_left
  · simp only [Act.put, List.setIfInBounds_toArray, List.set_cons_zero, List.set_cons_succ, i64_w, i32_w]
    rfl
  refine take_ (i := 3) (N := some 25) (v := ?_) (a' := ?_) #[true, true, true, true, false, true, false, false, false, true, true, true, false, false, false, false] rfl rfl (take_ofW HT_.out HW_.out (by kernel_rfl)) (fun _ _ _ h => h) (Or.inl ⟨by rfl, ?_⟩) hHeld ?_ ?_
  rotate_left
  · rintro w' ⟨s0, s1, s2⟩
    go_simp
    with_reducible rfl
  rotate_left
  · simp only [Act.put, List.setIfInBounds_toArray, List.set_cons_zero, List.set_cons_succ, i64_w, i32_w]
    rfl
  refine take_ (i := 6) (N := some 28) (v := ?_) (a' := ?_) #[true, true, true, true, false, true, true, false, false, true, true, true, false, false, false, false] rfl rfl (take_ofW HT_.out HW_.out (by kernel_rfl)) (fun _ _ _ h => h) (Or.inl ⟨by rfl, ?_⟩) hHeld ?_ ?_
  rotate_left
  · rintro w' ⟨s0, s1, s2⟩
    go_simp
    with_reducible rfl
  rotate_left
  · simp only [Act.put, List.setIfInBounds_toArray, List.set_cons_zero, List.set_cons_succ, i64_w, i32_w]
    rfl
  refine join_ (σ := Value × Option Addr × Nat × Value) 3 #[true, true, true, true, true, true, true, true, true, true, true, true, true, false, false, false] (fun s => [(26, s.1), (29, .slice s.2.1 l0_2.length s.2.2.1), (30, .agg #[.int .i64 a0_0, .int .i64 a0_1, .slice s.2.1 l0_2.length s.2.2.1]), (34, s.2.2.2)]) (fun s w' => ∃ gl : Nat, Aside0 (Below w.heap.size w w') ∧ Aside0 (w'.heap[gb]? = some (.cells #[.int .i64 a0_0, .int .i64 a0_1, .slice A0_2 l0_2.length c0_2] 24 (0, 0))) ∧ Aside0 (Kd.R (Kd.int .i64) 3 w' w.heap.size (fun k => k < n0) (.slice (some ⟨gx, 0, none⟩) G.exp.length cx) G.exp) ∧ Aside0 (Kd.R (Kd.int .i64) 3 w' w.heap.size (fun k => n0 ≤ k ∧ k ≠ gl) (.slice s.2.1 l0_2.length s.2.2.1) l0_2) ∧ Aside0 (Kd.R (Kd.int .i64) 3 w' w.heap.size (fun k => k = gl) s.2.2.2 (List.replicate q.toNat 0)) ∧ Aside0 (n0 ≤ gl)) ?_ ?_
  · skip
    rintro ⟨vm, An, cn, vl⟩ w6 ⟨gl, HB, BKb, HX, HM, HL, HGl⟩
    obtain ⟨gl', cl, hfl, -⟩ := Kd.R_form HL.out (by have := HQ.out; simp; omega)
    obtain rfl : gl = gl' := (HL.out.1 gl' (by rw [hfl]; rfl)).symm
    subst hfl
    have HGb := Aside0.mk (show w.heap.size ≤ gl from Kd.R_base HL.out gl rfl)
    have hHeld : w6.cell? ⟨gb, 0, none⟩ = some (.int .i64 a0_0) ∧ w6.cell? ⟨gb, 1, none⟩ = some (.int .i64 a0_1) ∧ w6.cell? ⟨gb, 2, none⟩ = some (.slice A0_2 l0_2.length c0_2) := ⟨(blk_cell BKb.out 0).trans rfl, (blk_cell BKb.out 1).trans rfl, (blk_cell BKb.out 2).trans rfl⟩
    refine norm_ (a' := ?_) ?_ ?_
    rotate_left
    · simp only [putAll]
      simp only [Act.put, List.setIfInBounds_toArray, List.set_cons_zero, List.set_cons_succ, i64_w, i32_w]
      rfl
    refine pure_ (i := 13) (N := some 35) (v := ?_) (a' := ?_) #[true, true, true, true, true, true, true, true, true, true, true, true, true, true, false, false] rfl rfl (any_of HT_.out (by kernel_rfl)) (fun _ _ _ h => h) (Or.inl ⟨by rfl, ?_⟩) ?_ ?_
    rotate_left
    · intro w'
      go_simp
      with_reducible rfl
    rotate_left
    · simp only [Act.put, List.setIfInBounds_toArray, List.set_cons_zero, List.set_cons_succ, i64_w, i32_w]
      rfl
    refine one_ (i := 14) (N := some 36) #[true, true, true, true, true, true, true, true, true, true, true, true, true, true, true, false] rfl rfl (one_of HT_.out (by kernel_rfl)) (by decide) (fun K hK => ?_)
    refine box_step (by rfl) (N := 36) ?hd (cs := #[.int .i64 a0_0, .int .i64 a0_1, .slice An l0_2.length cn, .int .i64 q, .slice (some ⟨gx, 0, none⟩) G.exp.length cx, .slice (some ⟨gl, 0, none⟩) (List.replicate q.toNat (0 : Int)).length cl]) (t := 68) ?hr ?_
    case hd => rfl
    case hr => first | (go_simp; done) | (go_simp; rfl)
    intro gg hgg w7 hbox hb
    have nb_ := Aside0.mk (blk_below (g := gb) BKb.out hb)
    have nx_ := Aside0.mk (Kd.R_below HX.out hb)
    have nm_ := Aside0.mk (Kd.R_below HM.out hb)
    have nl_ := Aside0.mk (Kd.R_below HL.out hb)
    have ng_ := Aside0.mk (show w.heap.size ≤ gg by rw [hgg]; exact below_size HB.out)
    have nh_ := Aside0.mk (below_step HB.out hb)
    have nk_ := Aside0.mk hbox
    clear HB BKb HX HM HL
    have HB := nh_
    have BKb := nb_
    have HX := nx_
    have HM := nm_
    have HL := nl_
    have GEg := ng_
    have BKg := nk_
    clear nh_ nb_ nx_ nm_ nl_ ng_ nk_
    clear hb hgg hbox
    refine hK.out _ _ ⟨(blk_cell BKb.out 0).trans rfl, (blk_cell BKb.out 1).trans rfl, (blk_cell BKb.out 2).trans rfl⟩ (fun hHeld => ?_)
    clear hK K
    refine norm_ (a' := ?_) ?_ ?_
    rotate_left
    · show Act.put _ (some 36) _ = _
      simp only [Act.put, List.setIfInBounds_toArray, List.set_cons_zero, List.set_cons_succ, i64_w, i32_w]
      rfl
    refine pure_ (i := 15) (N := some 6) (v := ?_) (a' := ?_) #[true, true, true, true, true, true, true, true, true, true, true, true, true, true, true, true] rfl rfl (any_of HT_.out (by kernel_rfl)) (fun _ _ _ h => h) (Or.inl ⟨by rfl, ?_⟩) ?_ ?_
    rotate_left
    · intro w'
      go_simp
      with_reducible rfl
    rotate_left
    · simp only [Act.put, List.setIfInBounds_toArray, List.set_cons_zero, List.set_cons_succ, i64_w, i32_w]
      rfl
    refine done_ (done_of HT_.out (by kernel_rfl)) ?_
    try go_wp2
    have hqn := HQ.out
    obtain ⟨nq, hnq⟩ : ∃ n_ : Nat, n_ = q.toNat := ⟨_, rfl⟩
    have HNq := Aside0.mk hnq
    rw [List.length_replicate, ← hnq] at HL BKg
    go_loopg [39] G.exp.length (fun kq v39 w' => ∃ (x39 : Int) (L : List Int), v39 = .int .i64 x39 ∧ Aside0 (0 ≤ x39 ∧ x39 + (kq : Int) = (G.exp.length : Int) ∧ fill L x39.toNat (G.exp.drop x39.toNat) = G.log ∧ L.length = nq) ∧ Aside0 (w'.heap[gg]? = some (.cells #[.int .i64 a0_0, .int .i64 a0_1, .slice An l0_2.length cn, .int .i64 q, .slice (some ⟨gx, 0, none⟩) G.exp.length cx, .slice (some ⟨gl, 0, none⟩) nq cl] 68 (0, 0))) ∧ Aside0 (Kd.R (Kd.int .i64) 3 w' w.heap.size (fun k => k < n0) (.slice (some ⟨gx, 0, none⟩) G.exp.length cx) G.exp) ∧ Aside0 (Kd.R (Kd.int .i64) 3 w' w.heap.size (fun k => n0 ≤ k ∧ k ≠ gl) (.slice An l0_2.length cn) l0_2) ∧ Aside0 (Kd.R (Kd.int .i64) 3 w' w.heap.size (fun k => k = gl) (.slice (some ⟨gl, 0, none⟩) nq cl) L) ∧ Aside0 (Below w.heap.size w w'))
    case atStart => exact ⟨0, List.replicate nq 0, rfl, ⟨⟨Int.le_refl _, by omega, by rw [hnq, ← hq]; exact fill_all G, by rw [List.length_replicate]⟩⟩, BKg, HX, HM, HL, HB⟩
    case round =>
      clear hnq
      obtain ⟨x39, L, rfl, HI, BKg, HX, HM, HL, HB⟩ := hrel
      by_cases c : x39 < (G.exp.length : Int)
      · have cb : decide (x39 < (G.exp.length : Int)) = true := decide_eq_true c
        obtain ⟨k1, rfl⟩ : ∃ k1, gk = k1 + 1 := ⟨gk - 1, by have := HI.out.2.1; omega⟩
        have hx : wr.cell? ⟨gx, x39.toNat, none⟩ = some (.int .i64 (rd G.exp x39)) := (Kd.R_celln 0 HX.out x39 HI.out.1 c).1
        have hXb := exp_is G HI.out.1 c
        have hstep := fill_step G L HI.out.1 c
        obtain ⟨X, hX⟩ : ∃ X : Int, X = rd G.exp x39 := ⟨_, rfl⟩
        rw [← hX] at hx hXb hstep
        have pX : 0 ≤ X := hXb.1
        have qX : X < (nq : Int) := by have := hXb.2; have := HNq.out; omega
        obtain ⟨hxl, hfl⟩ := Kd.R_celln 0 HL.out X pX qX
        have hcg5 : wr.cell? ⟨gg, 5, none⟩ = some (.slice (some ⟨gl, 0, none⟩) nq cl) := (blk_cell BKg.out 5).trans rfl
        have HP := Kd.R_putg HL.out X x39
        have HSt := Aside0.mk hstep
        have HXi := Aside0.mk (show 0 ≤ x39 ∧ x39 < (G.exp.length : Int) from ⟨HI.out.1, c⟩)
        have c0 := eq_true HI.out.1
        replace c := eq_true c
        replace pX := eq_true pX
        replace qX := eq_true qX
        clear hstep hXb hX
        go_wp2_with (first | ((with_reducible refine gate_store (t := 3) (p := 50) rfl ?_); refine store_event (t := 3) (p := 50) (v := ?vo) (w1 := (wr.setCell ⟨gl, X.toNat, none⟩ (.int .i64 x39))) ?hg ?ho ?hn ?hr ?_; (case ho => rfl); (case hg => rfl); (case hn => rfl); (case hr => first | (go_simp; done) | (go_simp; rfl)); intro ws hw; have hg : wr.grownBy ws (some gl) := (by rw [hw]; exact HP.2); have nl_ : Aside0 (Kd.R (Kd.int .i64) 3 ws w.heap.size (fun k => k = gl) (.slice (some ⟨gl, 0, none⟩) nq cl) (L.set X.toNat x39)) := ⟨by rw [hw]; exact HP.1⟩; have nb_ := Aside0.mk (blk_grown (g := gg) BKg.out hg (Kd.R_ne HL.out BKg.out (by decide))); have nx_ := Aside0.mk (Kd.R_grown HX.out hg (fun k hk he => by injection he with he; have := HGl.out; omega)); have nm_ := Aside0.mk (Kd.R_grown HM.out hg (fun k hk he => hk.2 (by injection he))); have nh_ := Aside0.mk ((by rw [hw]; exact below_set HB.out HGb.out : Below w.heap.size w ws)); clear HL BKg HX HM HB HP; have HL := nl_; have BKg := nb_; have HX := nx_; have HM := nm_; have HB := nh_; clear nl_ nb_ nx_ nm_ nh_ hg hw hx hxl hfl hcg5))
        go_roundg k1
        case measure => omega
        case rel =>
          have e1 : wrap64 (x39 + 1) = x39 + 1 := by
            have h1 := HXi.out
            have h2 := HE.out
            unfold wrap64
            omega
          have h3 := HI.out
          refine ⟨_, L.set X.toNat x39, rfl, ⟨?_⟩, BKg, HX, HM, HL, HB⟩
          rw [e1]
          exact ⟨by omega, by omega, by rw [← HSt.out]; exact h3.2.2.1, by rw [List.length_set]; exact h3.2.2.2⟩
      · have cb : decide (x39 < (G.exp.length : Int)) = false := decide_eq_false c
        have hI := HI.out
        have hfin : L = G.log := by
          have h1 := hI.2.2.1
          rw [List.drop_eq_nil_of_le (by omega)] at h1
          exact h1
        subst hfin
        have hll := log_len G
        have hqt : nq = G.log.length := by have := HNq.out; omega
        have HFin : Aside0 (Kd.R (Kd.int .i64) 3 wr w.heap.size (fun k => k = gl) (.slice (some ⟨gl, 0, none⟩) G.log.length cl) G.log) := ⟨by rw [← hqt]; exact HL.out⟩
        have BKf : Aside0 (GFok wr gg G) := ⟨⟨An, cn, some ⟨gx, 0, none⟩, cx, some ⟨gl, 0, none⟩, cl, by rw [hp, hm, hmod, hq, ← hqt]; exact BKg.out, by rw [hmod]; exact (Kd.R_reads' HM.out).2.2, by rw [hmod]; exact (Kd.R_reads' HM.out).2.1, (Kd.R_reads' HX.out).2.2, (Kd.R_reads' HX.out).2.1, (Kd.R_reads' HFin.out).2.2, (Kd.R_reads' HFin.out).2.1⟩⟩
        clear hI hll hqt
        go_wp2
        go_ret2
        exact ⟨gg, rfl, HB.out, BKf.out⟩
  · skip
    intro hc
    refine two_ (i := 4) (j := 12) (Ni := some 26) (Nj := some 34) #[true, true, true, true, true, true, true, false, false, true, true, true, false, false, false, false] #[true, true, true, true, false, true, true, false, false, true, true, true, true, false, false, false] rfl rfl rfl rfl (two_of HT_.out (by kernel_rfl)) (by decide) (by decide) (fun K hK => ?_) (fun K hK => ?_)
    · skip
      refine Kd.R_lit_step (Kd.int .i64) (w0 := w) w.heap.size 3 (by rfl) (N := 26) ?hd (xs := ([] : List Int)) (inner := []) (ok := (fun k => n0 ≤ k)) (okp := (fun k => n0 ≤ k)) ?hr ?hp (fun _ hk => hk) (HN.out) HB.out (below_size HB.out) (by simp) ?_
      case hd => rfl
      case hr => first | (go_simp; done) | (go_simp; rfl)
      case hp => exact Reps.none _ _
      intro vm wm ho hb hg hnew
      have nb_ := Aside0.mk (blk_grown (g := gb) BKb.out hg (by simp))
      have nn_ := Aside0.mk (Nat.le_trans HN.out hg.size)
      have nx_ := Aside0.mk (Kd.R_grown HX.out hg (fun _ _ => by simp))
      have nm_ := Aside0.mk ho
      have nh_ := Aside0.mk hb
      clear HB BKb HN HX
      have HB := nh_
      have BKb := nb_
      have HN := nn_
      have HX := nx_
      have HM := nm_
      clear nh_ nb_ nn_ nx_ nm_
      clear ho hb hg hnew
      refine hK.out _ _ ⟨(blk_cell BKb.out 0).trans rfl, (blk_cell BKb.out 1).trans rfl, (blk_cell BKb.out 2).trans rfl⟩ (fun hHeld => ?_)
      clear hK K
      refine norm_ (a' := ?_) ?_ ?_
      rotate_left
      · show Act.put _ (some 26) _ = _
        simp only [Act.put, List.setIfInBounds_toArray, List.set_cons_zero, List.set_cons_succ, i64_w, i32_w]
        rfl
      refine two_ (i := 7) (j := 12) (Ni := some 29) (Nj := some 34) #[true, true, true, true, true, true, true, true, false, true, true, true, false, false, false, false] #[true, true, true, true, true, true, true, false, false, true, true, true, true, false, false, false] rfl rfl rfl rfl (two_of HT_.out (by kernel_rfl)) (by decide) (by decide) (fun K hK => ?_) (fun K hK => ?_)
      · skip
        refine Kd.R_append_rows_step (Kd.int .i64) (w0 := w) w.heap.size (by rfl) (.tmp 26) (.tmp 28) 22 3 (.int .i64 0) 8 rfl Try.underlying22 info3 rfl (by decide) (by omega) vm ([] : List Int) l0_2 A0_2 l0_2.length c0_2 (fun k => n0 ≤ k) (fun _ => False) rfl rfl ?aO ?aR (fun _ _ h => h) (fun _ h => h.elim) ?aF ?aB ?aS ?aL ?_
        case aR => exact Kd.C_below HR.out HB.out
        case aB => exact HB.out
        case aF => exact (fun k hk => Nat.le_trans HN.out hk)
        case aO => exact HM.out
        case aS => exact below_size HB.out
        case aL => have := HLen.out; simp; omega
        intro vn wn ho hb hg hat
        rw [List.nil_append] at ho
        have nb_ := Aside0.mk (blk_grown (g := gb) BKb.out hg (Kd.R_ne HM.out BKb.out (by decide)))
        have nn_ := Aside0.mk (Nat.le_trans HN.out hg.size)
        have nx_ := Aside0.mk (Kd.R_grown HX.out hg (fun k hk he => by have := HM.out.1 k he.symm; omega))
        have nm_ := Aside0.mk ho
        have nh_ := Aside0.mk hb
        clear HB BKb HN HX HM
        have HB := nh_
        have BKb := nb_
        have HN := nn_
        have HX := nx_
        have HM := nm_
        clear nh_ nb_ nn_ nx_ nm_
        clear ho hb hg hat
        obtain ⟨An, cn, rfl⟩ := Kd.R_slice HM.out
        refine hK.out _ _ ⟨(blk_cell BKb.out 0).trans rfl, (blk_cell BKb.out 1).trans rfl, (blk_cell BKb.out 2).trans rfl⟩ (fun hHeld => ?_)
        clear hK K
        refine norm_ (a' := ?_) ?_ ?_
        rotate_left
        · show Act.put _ (some 29) _ = _
          simp only [Act.put, List.setIfInBounds_toArray, List.set_cons_zero, List.set_cons_succ, i64_w, i32_w]
          rfl
        refine pure_ (i := 8) (N := some 30) (v := ?_) (a' := ?_) #[true, true, true, true, true, true, true, true, true, true, true, true, false, false, false, false] rfl rfl (any_of HT_.out (by kernel_rfl)) (fun _ _ _ h => h) (Or.inl ⟨by rfl, ?_⟩) ?_ ?_
        rotate_left
        · intro w'
          go_simp
          with_reducible rfl
        rotate_left
        · simp only [Act.put, List.setIfInBounds_toArray, List.set_cons_zero, List.set_cons_succ, i64_w, i32_w]
          rfl
        refine one_ (i := 12) (N := some 34) #[true, true, true, true, true, true, true, true, true, true, true, true, true, false, false, false] rfl rfl (one_of HT_.out (by kernel_rfl)) (by decide) (fun K hK => ?_)
        refine Kd.R_make_step (Kd.int .i64) (w0 := w) w.heap.size 3 (by rfl) (N := 34) rfl 22 _ _ rfl q rfl rfl Try.underlying22 (.int .i64 0) 8 info3 rfl (by decide) (by omega) 0 (ok := fun k => k = wn.heap.size) (okp := fun k => k = wn.heap.size) rfl (fun _ hk => hk) rfl (by have := HQ.out; omega) (by have := HQ.out; omega) HB.out (below_size HB.out) ?_
        intro vl wl ho hb hg hnew
        obtain ⟨gl, hgl⟩ : ∃ g_ : Nat, g_ = wn.heap.size := ⟨_, rfl⟩
        rw [← hgl] at ho
        have hlb : (vl : Value).ownBlock = some gl := by obtain ⟨b_, e1, -⟩ := hnew; rw [e1, ho.1 b_ e1]
        have nb_ := Aside0.mk (blk_grown (g := gb) BKb.out hg (by simp))
        have nn_ := Aside0.mk (Nat.le_trans HN.out hg.size)
        have nx_ := Aside0.mk (Kd.R_grown HX.out hg (fun _ _ => by simp))
        have ng_ := Aside0.mk (show n0 ≤ gl by rw [hgl]; exact HN.out)
        have nm_ := Aside0.mk (Kd.R_grown (Kd.R_mono (ok' := fun k => n0 ≤ k ∧ k ≠ gl) (Kd.R_bound HM.out) (fun k hk => ⟨hk.1, by have := hk.2.2.1; omega⟩)) hg (fun _ _ => by simp))
        have nl_ := Aside0.mk ho
        have nh_ := Aside0.mk hb
        clear HB BKb HN HX HM
        have HB := nh_
        have BKb := nb_
        have HN := nn_
        have HX := nx_
        have HL := nl_
        have HGl := ng_
        have HM := nm_
        clear nh_ nb_ nn_ nx_ nl_ ng_ nm_
        clear ho hb hg hnew hgl
        refine hK.out _ _ ⟨(blk_cell BKb.out 0).trans rfl, (blk_cell BKb.out 1).trans rfl, (blk_cell BKb.out 2).trans rfl⟩ (fun hHeld => ?_)
        clear hK K
        refine norm_ (a' := ?_) ?_ ?_
        rotate_left
        · show Act.put _ (some 34) _ = _
          simp only [Act.put, List.setIfInBounds_toArray, List.set_cons_zero, List.set_cons_succ, i64_w, i32_w]
          rfl
        refine norm_ ?_ (hc (vm, An, cn, vl) _ ⟨gl, HB, BKb, HX, HM, HL, HGl⟩)
        simp only [putAll, Act.put, List.setIfInBounds_toArray, List.set_cons_zero, List.set_cons_succ]
      · skip
        refine Kd.R_make_step (Kd.int .i64) (w0 := w) w.heap.size 3 (by rfl) (N := 34) rfl 22 _ _ rfl q rfl rfl Try.underlying22 (.int .i64 0) 8 info3 rfl (by decide) (by omega) 0 (ok := fun k => k = wm.heap.size) (okp := fun k => k = wm.heap.size) rfl (fun _ hk => hk) rfl (by have := HQ.out; omega) (by have := HQ.out; omega) HB.out (below_size HB.out) ?_
        intro vl wl ho hb hg hnew
        obtain ⟨gl, hgl⟩ : ∃ g_ : Nat, g_ = wm.heap.size := ⟨_, rfl⟩
        rw [← hgl] at ho
        have hlb : (vl : Value).ownBlock = some gl := by obtain ⟨b_, e1, -⟩ := hnew; rw [e1, ho.1 b_ e1]
        have nb_ := Aside0.mk (blk_grown (g := gb) BKb.out hg (by simp))
        have nn_ := Aside0.mk (Nat.le_trans HN.out hg.size)
        have nx_ := Aside0.mk (Kd.R_grown HX.out hg (fun _ _ => by simp))
        have ng_ := Aside0.mk (show n0 ≤ gl by rw [hgl]; exact HN.out)
        have nm_ := Aside0.mk (Kd.R_grown (Kd.R_mono (ok' := fun k => n0 ≤ k ∧ k ≠ gl) (Kd.R_bound HM.out) (fun k hk => ⟨hk.1, by have := hk.2.2.1; omega⟩)) hg (fun _ _ => by simp))
        have nl_ := Aside0.mk ho
        have nh_ := Aside0.mk hb
        clear HB BKb HN HX HM
        have HB := nh_
        have BKb := nb_
        have HN := nn_
        have HX := nx_
        have HL := nl_
        have HGl := ng_
        have HM := nm_
        clear nh_ nb_ nn_ nx_ nl_ ng_ nm_
        clear ho hb hg hnew hgl
        refine hK.out _ _ ⟨(blk_cell BKb.out 0).trans rfl, (blk_cell BKb.out 1).trans rfl, (blk_cell BKb.out 2).trans rfl⟩ (fun hHeld => ?_)
        clear hK K
        refine norm_ (a' := ?_) ?_ ?_
        rotate_left
        · show Act.put _ (some 34) _ = _
          simp only [Act.put, List.setIfInBounds_toArray, List.set_cons_zero, List.set_cons_succ, i64_w, i32_w]
          rfl
        refine one_ (i := 7) (N := some 29) #[true, true, true, true, true, true, true, true, false, true, true, true, true, false, false, false] rfl rfl (one_of HT_.out (by kernel_rfl)) (by decide) (fun K hK => ?_)
        refine Kd.R_append_rows_step (Kd.int .i64) (w0 := w) w.heap.size (by rfl) (.tmp 26) (.tmp 28) 22 3 (.int .i64 0) 8 rfl Try.underlying22 info3 rfl (by decide) (by omega) vm ([] : List Int) l0_2 A0_2 l0_2.length c0_2 (fun k => n0 ≤ k ∧ k ≠ gl) (fun _ => False) rfl rfl ?aO ?aR (fun _ _ h => h) (fun _ h => h.elim) ?aF ?aB ?aS ?aL ?_
        case aR => exact Kd.C_below HR.out HB.out
        case aB => exact HB.out
        case aF => exact (fun k hk => ⟨Nat.le_trans HN.out hk, by have := Kd.R_lt HL.out gl hlb; omega⟩)
        case aO => exact HM.out
        case aS => exact below_size HB.out
        case aL => have := HLen.out; simp; omega
        intro vn wn ho hb hg hat
        rw [List.nil_append] at ho
        have nb_ := Aside0.mk (blk_grown (g := gb) BKb.out hg (Kd.R_ne HM.out BKb.out (by decide)))
        have nn_ := Aside0.mk (Nat.le_trans HN.out hg.size)
        have nx_ := Aside0.mk (Kd.R_grown HX.out hg (fun k hk he => by have := HM.out.1 k he.symm; omega))
        have nl_ := Aside0.mk (Kd.R_grown HL.out hg (fun k hk he => (HM.out.1 k he.symm).2 hk))
        have nm_ := Aside0.mk ho
        have nh_ := Aside0.mk hb
        clear HB BKb HN HX HM HL
        have HB := nh_
        have BKb := nb_
        have HN := nn_
        have HX := nx_
        have HM := nm_
        have HL := nl_
        clear nh_ nb_ nn_ nx_ nm_ nl_
        clear ho hb hg hat
        obtain ⟨An, cn, rfl⟩ := Kd.R_slice HM.out
        refine hK.out _ _ ⟨(blk_cell BKb.out 0).trans rfl, (blk_cell BKb.out 1).trans rfl, (blk_cell BKb.out 2).trans rfl⟩ (fun hHeld => ?_)
        clear hK K
        refine norm_ (a' := ?_) ?_ ?_
        rotate_left
        · show Act.put _ (some 29) _ = _
          simp only [Act.put, List.setIfInBounds_toArray, List.set_cons_zero, List.set_cons_succ, i64_w, i32_w]
          rfl
        refine pure_ (i := 8) (N := some 30) (v := ?_) (a' := ?_) #[true, true, true, true, true, true, true, true, true, true, true, true, true, false, false, false] rfl rfl (any_of HT_.out (by kernel_rfl)) (fun _ _ _ h => h) (Or.inl ⟨by rfl, ?_⟩) ?_ ?_
        rotate_left
        · intro w'
          go_simp
          with_reducible rfl
        rotate_left
        · simp only [Act.put, List.setIfInBounds_toArray, List.set_cons_zero, List.set_cons_succ, i64_w, i32_w]
          rfl
        refine norm_ ?_ (hc (vm, An, cn, vl) _ ⟨gl, HB, BKb, HX, HM, HL, HGl⟩)
        simp only [putAll, Act.put, List.setIfInBounds_toArray, List.set_cons_zero, List.set_cons_succ]
    · skip
      refine Kd.R_make_step (Kd.int .i64) (w0 := w) w.heap.size 3 (by rfl) (N := 34) rfl 22 _ _ rfl q rfl rfl Try.underlying22 (.int .i64 0) 8 info3 rfl (by decide) (by omega) 0 (ok := fun k => k = w5.heap.size) (okp := fun k => k = w5.heap.size) rfl (fun _ hk => hk) rfl (by have := HQ.out; omega) (by have := HQ.out; omega) HB.out (below_size HB.out) ?_
      intro vl wl ho hb hg hnew
      obtain ⟨gl, hgl⟩ : ∃ g_ : Nat, g_ = w5.heap.size := ⟨_, rfl⟩
      rw [← hgl] at ho
      have hlb : (vl : Value).ownBlock = some gl := by obtain ⟨b_, e1, -⟩ := hnew; rw [e1, ho.1 b_ e1]
      have nb_ := Aside0.mk (blk_grown (g := gb) BKb.out hg (by simp))
      have nn_ := Aside0.mk (Nat.le_trans HN.out hg.size)
      have nx_ := Aside0.mk (Kd.R_grown HX.out hg (fun _ _ => by simp))
      have ng_ := Aside0.mk (show n0 ≤ gl by rw [hgl]; exact HN.out)
      have nl_ := Aside0.mk ho
      have nh_ := Aside0.mk hb
      clear HB BKb HN HX
      have HB := nh_
      have BKb := nb_
      have HN := nn_
      have HX := nx_
      have HL := nl_
      have HGl := ng_
      clear nh_ nb_ nn_ nx_ nl_ ng_
      clear ho hb hg hnew hgl
      refine hK.out _ _ ⟨(blk_cell BKb.out 0).trans rfl, (blk_cell BKb.out 1).trans rfl, (blk_cell BKb.out 2).trans rfl⟩ (fun hHeld => ?_)
      clear hK K
      refine norm_ (a' := ?_) ?_ ?_
      rotate_left
      · show Act.put _ (some 34) _ = _
        simp only [Act.put, List.setIfInBounds_toArray, List.set_cons_zero, List.set_cons_succ, i64_w, i32_w]
        rfl
      refine one_ (i := 4) (N := some 26) #[true, true, true, true, true, true, true, false, false, true, true, true, true, false, false, false] rfl rfl (one_of HT_.out (by kernel_rfl)) (by decide) (fun K hK => ?_)
      refine Kd.R_lit_step (Kd.int .i64) (w0 := w) w.heap.size 3 (by rfl) (N := 26) ?hd (xs := ([] : List Int)) (inner := []) (ok := (fun k => n0 ≤ k ∧ k ≠ gl)) (okp := (fun k => n0 ≤ k ∧ k ≠ gl)) ?hr ?hp (fun _ hk => hk) (⟨HN.out, by have := Kd.R_lt HL.out gl hlb; omega⟩) HB.out (below_size HB.out) (by simp) ?_
      case hd => rfl
      case hr => first | (go_simp; done) | (go_simp; rfl)
      case hp => exact Reps.none _ _
      intro vm wm ho hb hg hnew
      have nb_ := Aside0.mk (blk_grown (g := gb) BKb.out hg (by simp))
      have nn_ := Aside0.mk (Nat.le_trans HN.out hg.size)
      have nx_ := Aside0.mk (Kd.R_grown HX.out hg (fun _ _ => by simp))
      have nl_ := Aside0.mk (Kd.R_grown HL.out hg (fun _ _ => by simp))
      have nm_ := Aside0.mk ho
      have nh_ := Aside0.mk hb
      clear HB BKb HN HX HL
      have HB := nh_
      have BKb := nb_
      have HN := nn_
      have HX := nx_
      have HM := nm_
      have HL := nl_
      clear nh_ nb_ nn_ nx_ nm_ nl_
      clear ho hb hg hnew
      refine hK.out _ _ ⟨(blk_cell BKb.out 0).trans rfl, (blk_cell BKb.out 1).trans rfl, (blk_cell BKb.out 2).trans rfl⟩ (fun hHeld => ?_)
      clear hK K
      refine norm_ (a' := ?_) ?_ ?_
      rotate_left
      · show Act.put _ (some 26) _ = _
        simp only [Act.put, List.setIfInBounds_toArray, List.set_cons_zero, List.set_cons_succ, i64_w, i32_w]
        rfl
      refine one_ (i := 7) (N := some 29) #[true, true, true, true, true, true, true, true, false, true, true, true, true, false, false, false] rfl rfl (one_of HT_.out (by kernel_rfl)) (by decide) (fun K hK => ?_)
      refine Kd.R_append_rows_step (Kd.int .i64) (w0 := w) w.heap.size (by rfl) (.tmp 26) (.tmp 28) 22 3 (.int .i64 0) 8 rfl Try.underlying22 info3 rfl (by decide) (by omega) vm ([] : List Int) l0_2 A0_2 l0_2.length c0_2 (fun k => n0 ≤ k ∧ k ≠ gl) (fun _ => False) rfl rfl ?aO ?aR (fun _ _ h => h) (fun _ h => h.elim) ?aF ?aB ?aS ?aL ?_
      case aR => exact Kd.C_below HR.out HB.out
      case aB => exact HB.out
      case aF => exact (fun k hk => ⟨Nat.le_trans HN.out hk, by have := Kd.R_lt HL.out gl hlb; omega⟩)
      case aO => exact HM.out
      case aS => exact below_size HB.out
      case aL => have := HLen.out; simp; omega
      intro vn wn ho hb hg hat
      rw [List.nil_append] at ho
      have nb_ := Aside0.mk (blk_grown (g := gb) BKb.out hg (Kd.R_ne HM.out BKb.out (by decide)))
      have nn_ := Aside0.mk (Nat.le_trans HN.out hg.size)
      have nx_ := Aside0.mk (Kd.R_grown HX.out hg (fun k hk he => by have := HM.out.1 k he.symm; omega))
      have nl_ := Aside0.mk (Kd.R_grown HL.out hg (fun k hk he => (HM.out.1 k he.symm).2 hk))
      have nm_ := Aside0.mk ho
      have nh_ := Aside0.mk hb
      clear HB BKb HN HX HM HL
      have HB := nh_
      have BKb := nb_
      have HN := nn_
      have HX := nx_
      have HM := nm_
      have HL := nl_
      clear nh_ nb_ nn_ nx_ nm_ nl_
      clear ho hb hg hat
      obtain ⟨An, cn, rfl⟩ := Kd.R_slice HM.out
      refine hK.out _ _ ⟨(blk_cell BKb.out 0).trans rfl, (blk_cell BKb.out 1).trans rfl, (blk_cell BKb.out 2).trans rfl⟩ (fun hHeld => ?_)
      clear hK K
      refine norm_ (a' := ?_) ?_ ?_
      rotate_left
      · show Act.put _ (some 29) _ = _
        simp only [Act.put, List.setIfInBounds_toArray, List.set_cons_zero, List.set_cons_succ, i64_w, i32_w]
        rfl
      refine pure_ (i := 8) (N := some 30) (v := ?_) (a' := ?_) #[true, true, true, true, true, true, true, true, true, true, true, true, true, false, false, false] rfl rfl (any_of HT_.out (by kernel_rfl)) (fun _ _ _ h => h) (Or.inl ⟨by rfl, ?_⟩) ?_ ?_
      rotate_left
      · intro w'
        go_simp
        with_reducible rfl
      rotate_left
      · simp only [Act.put, List.setIfInBounds_toArray, List.set_cons_zero, List.set_cons_succ, i64_w, i32_w]
        rfl
      refine norm_ ?_ (hc (vm, An, cn, vl) _ ⟨gl, HB, BKb, HX, HM, HL, HGl⟩)
      simp only [putAll, Act.put, List.setIfInBounds_toArray, List.set_cons_zero, List.set_cons_succ]
end
end Go.Proofs.Ytbohbfggmnjpdaa.Hand
end
-- New
section
namespace Go.Proofs.Ytbohbfggmnjpdaa.Hand
noncomputable section
open Go.RowKit Go.Proofs.Ytbohbfggmnjpdaa.P Go.Proofs.YtbohbfggmnjpdaaW.PrintWords
open Classical in
def field_New.f (P M : Int) (Mod : List Int) : Option (Option GFv × Int) :=
  if Ev (fun k => field_shape.f k P M Mod) false then some (none, 1)
  else if ∃ q, Ev (fun k => field_shape.f k P M Mod) true ∧ Ev (fun k => field_order.f k P M) q ∧ Ev (fun k => field_generator.f k P M Mod q) [] then some (none, 1)
  else if h : ∃ G : GFv, (G.F.p : Int) = P ∧ (G.F.m : Int) = M ∧ G.mod = Mod ∧ Ev (fun k => field_shape.f k P M Mod) true ∧ Ev (fun k => field_order.f k P M) (G.q : Int) ∧ Ev (fun k => field_generator.f k P M Mod (G.q : Int)) G.exp then some (some (Classical.choose h), 0)
  else none
theorem field_New.calls (a0_0 : Int) (a0_1 : Int) (A0_2 : Option Addr) (c0_2 : Nat) (l0_2 : List Int) (r1 : Option GFv) (r2 : Int) (w : World) (hr0_2 : Kd.C (Kd.int .i64) w A0_2 l0_2.length l0_2) (hc0_2 : l0_2.length ≤ c0_2) (h : field_New.f a0_0 a0_1 l0_2 = some (r1, r2)) :
    Calls Try.prog 38 #[.agg #[.int .i64 a0_0, .int .i64 a0_1, .slice A0_2 l0_2.length c0_2]] w fun e w' => ∃ b_ : Nat, e = .returned (.tuple #[gfW b_ r1, .int .i64 r2]) ∧ Below w.heap.size w w' ∧ gfOk w' b_ r1 := by
  unfold field_New.f at h
  split at h
  · rename_i h1
    obtain ⟨k, hk⟩ := h1.rounds
    have h' := Option.some.inj h
    injection h' with e1 e2
    subst e1
    subst e2
    exact (new_bad1 a0_0 a0_1 A0_2 c0_2 l0_2 w hr0_2 hc0_2 k hk).mono fun e w' ⟨h1, h2⟩ => ⟨0, h1, h2, trivial⟩
  split at h
  · rename_i h1
    obtain ⟨q, hs, ho, hg⟩ := h1
    obtain ⟨ks, hs⟩ := hs.rounds
    obtain ⟨ko, ho⟩ := ho.rounds
    obtain ⟨kg, hg⟩ := hg.rounds
    have h' := Option.some.inj h
    injection h' with e1 e2
    subst e1
    subst e2
    exact (new_bad2 a0_0 a0_1 A0_2 c0_2 l0_2 w hr0_2 hc0_2 ks ko kg q hs ho hg).mono fun e w' ⟨h1, h2⟩ => ⟨0, h1, h2, trivial⟩
  split at h
  · rename_i h1
    obtain ⟨hp, hm, hmod, hs, ho, hg⟩ := Classical.choose_spec h1
    obtain ⟨ks, hs⟩ := hs.rounds
    obtain ⟨ko, ho⟩ := ho.rounds
    obtain ⟨kg, hg⟩ := hg.rounds
    have h' := Option.some.inj h
    injection h' with e1 e2
    subst e1
    subst e2
    exact (new_ok a0_0 a0_1 A0_2 c0_2 l0_2 w hr0_2 hc0_2 ks ko kg _ _ hp hm hmod rfl hs ho hg).mono fun e w' ⟨b, h1, h2, h3⟩ => ⟨b, h1, h2, h3⟩
  · cases h
end
end Go.Proofs.Ytbohbfggmnjpdaa.Hand
end
-- Op
section
namespace Go.Proofs.Ytbohbfggmnjpdaa.Hand
noncomputable section
open Go.RowKit Go.Proofs.Ytbohbfggmnjpdaa.P Go.Proofs.YtbohbfggmnjpdaaW.PrintWords Go.Proofs.YtbohbfggmnjpdaaW.PrintLast Go.Proofs.YtbohbfggmnjpdaaW.PrintMore
set_option maxHeartbeats 8000000 in
set_option maxRecDepth 100000 in
theorem open_bad (a0_0 : Int) (a0_1 : Int) (A0_2 : Option Addr) (c0_2 : Nat) (l0_2 : List Int) (w : World) (hr0_2 : Kd.C (Kd.int .i64) w A0_2 l0_2.length l0_2) (hc0_2 : l0_2.length ≤ c0_2) (ks : Nat) (o : Option GFv) (c ck : Int) (hck : ck ≠ 0) (hn : field_New.f a0_0 a0_1 l0_2 = some (o, c)) (hs : codewrightref04_Check.f ks a0_0 a0_1 l0_2 = some ck) :
    Calls Try.prog 13 #[.agg #[.int .i64 a0_0, .int .i64 a0_1, .slice A0_2 l0_2.length c0_2]] w fun e w' => e = .returned (.tuple #[.pointer none, .bool true, .bool (c != 0)]) ∧ Below w.heap.size w w' := by
  have hu24 := Try.underlying24
  have hu22 := Try.underlying22
  have HR := Aside0.mk hr0_2
  have HC := Aside0.mk hc0_2
  clear hr0_2 hc0_2
  have HB := Aside0.mk (Below.refl w.heap.size w)
  have HS := Aside0.mk hs
  have HN := Aside0.mk hn
  clear hs hn
  have c0b0 : (ck == 0) = false := beq_eq_false_iff_ne.mpr hck
  have c0b1 : (ck != 0) = true := bne_iff_ne.mpr hck
  go_enter Try.func13, Try.ntmps13
  go_wp2_with (first | ((with_reducible refine gate_dst (N := 1) rfl ?_); refine box_event ?hg (N := 1) ?hd (cs := #[.int .i64 a0_0, .int .i64 a0_1, .slice A0_2 l0_2.length c0_2]) (t := 24) ?hr ?_; (case hd => rfl); (case hg => rfl); (case hr => first | (go_simp; done) | (go_simp; rfl)); intro gb hg w3 hbox hb; have n0_ := Aside0.mk (below_step (by repeat (first | (with_reducible first | exact HB.out | apply below_alloc | apply pw_below_drewN | apply below_drew1 | refine below_set ?_ GEb.out) | exact HB.out)) hb); have n1_ := Aside0.mk hbox; have n2_ := Aside0.mk (show w.heap.size ≤ gb by rw [hg]; exact below_size HB.out); clear HB; have HB := n0_; have BKb := n1_; have GEb := n2_; clear n0_ n1_ n2_ hb hbox hg; have ha0 : w3.cell? ⟨gb, 0, none⟩ = some (.int .i64 a0_0) := (blk_cell BKb.out 0).trans rfl; have ha1 : w3.cell? ⟨gb, 1, none⟩ = some (.int .i64 a0_1) := (blk_cell BKb.out 1).trans rfl; have ha2 : w3.cell? ⟨gb, 2, none⟩ = some (.slice A0_2 l0_2.length c0_2) := (blk_cell BKb.out 2).trans rfl) | ((with_reducible refine gate_callee (f := 38) rfl ?_); refine goesL_ (some 8) rfl rfl Try.func38 (by kernel_rfl) rfl #[.agg #[.int .i64 a0_0, .int .i64 a0_1, .slice A0_2 l0_2.length c0_2]] rfl (by (try simp only [List.map_toArray, List.map_cons, List.map_nil]); first | done | rfl | (simp only [List.length_drop, List.length_take]; rfl)) ?_; (with_reducible refine (field_New.calls a0_0 a0_1 _ _ l0_2 o c _ ?side1 ?side2 HN.out).mono ?_); (case side1 => repeat (first | exact (Kd.C_below HR.out HB.out) | (with_reducible refine Kd.C_alloc ?_ _) | (with_reducible refine Kd.C_drewN ?_ _) | (with_reducible refine Kd.C_drew ?_))); (case side2 => exact HC.out); rintro e wn ⟨bn, rfl, hb, hok⟩; refine ⟨_, rfl, ?_⟩; have ok_ := Aside0.mk hok; clear hok; have n1_ := Aside0.mk (blk_below (g := gb) (o := .cells #[.int .i64 a0_0, .int .i64 a0_1, .slice A0_2 l0_2.length c0_2] 24 (0, 0)) (by (with_reducible repeat (first | refine blk_drewN ?_ _ | refine blk_drew ?_ | refine blk_alloc ?_ _)); exact BKb.out) hb); have n2_ := Aside0.mk (below_step (by repeat (first | (with_reducible first | exact HB.out | apply below_alloc | apply pw_below_drewN | apply below_drew1 | refine below_set ?_ GEb.out) | exact HB.out)) hb); clear BKb; clear HB; have BKb := n1_; have HB := n2_; clear n1_ n2_; (try clear hb); obtain ⟨vg, hvg⟩ : ∃ v_ : Value, v_ = gfW bn o := ⟨_, rfl⟩; rw [← hvg]; have hv_ := Aside0.mk hvg; clear hvg; have hb0 : wn.cell? ⟨gb, 0, none⟩ = some (.int .i64 a0_0) := (blk_cell BKb.out 0).trans rfl; have hb1 : wn.cell? ⟨gb, 1, none⟩ = some (.int .i64 a0_1) := (blk_cell BKb.out 1).trans rfl; have hb2 : wn.cell? ⟨gb, 2, none⟩ = some (.slice A0_2 l0_2.length c0_2) := (blk_cell BKb.out 2).trans rfl) | ((with_reducible refine gate_callee (f := 39) rfl ?_); refine goesL_ (some 12) rfl rfl Try.func39 (by kernel_rfl) rfl #[.agg #[.int .i64 a0_0, .int .i64 a0_1, .slice A0_2 l0_2.length c0_2]] rfl (by (try simp only [List.map_toArray, List.map_cons, List.map_nil]); first | done | rfl | (simp only [List.length_drop, List.length_take]; rfl)) ?_; (with_reducible refine (codewrightref04_Check.calls ks a0_0 a0_1 _ _ l0_2 ck _ ?side1 ?side2 HS.out).mono ?_); (case side1 => repeat (first | exact (Kd.C_below HR.out HB.out) | (with_reducible refine Kd.C_alloc ?_ _) | (with_reducible refine Kd.C_drewN ?_ _) | (with_reducible refine Kd.C_drew ?_))); (case side2 => exact HC.out); rintro e wa ⟨rfl, hb⟩; refine ⟨_, rfl, ?_⟩; skip; have n1_ := Aside0.mk (blk_below (g := gb) (o := .cells #[.int .i64 a0_0, .int .i64 a0_1, .slice A0_2 l0_2.length c0_2] 24 (0, 0)) (by (with_reducible repeat (first | refine blk_drewN ?_ _ | refine blk_drew ?_ | refine blk_alloc ?_ _)); exact BKb.out) hb); have n2_ := Aside0.mk (below_step (by repeat (first | (with_reducible first | exact HB.out | apply below_alloc | apply pw_below_drewN | apply below_drew1 | refine below_set ?_ GEb.out) | exact HB.out)) hb); clear BKb; clear HB; have BKb := n1_; have HB := n2_; clear n1_ n2_; (try clear hb)))
  go_ret3
  exact ⟨rfl, HB.out⟩
set_option maxHeartbeats 8000000 in
set_option maxRecDepth 100000 in
theorem open_ok (a0_0 : Int) (a0_1 : Int) (A0_2 : Option Addr) (c0_2 : Nat) (l0_2 : List Int) (w : World) (hr0_2 : Kd.C (Kd.int .i64) w A0_2 l0_2.length l0_2) (hc0_2 : l0_2.length ≤ c0_2) (ks : Nat) (G : GFv) (hn : field_New.f a0_0 a0_1 l0_2 = some (some G, 0)) (hs : codewrightref04_Check.f ks a0_0 a0_1 l0_2 = some 0) :
    Calls Try.prog 13 #[.agg #[.int .i64 a0_0, .int .i64 a0_1, .slice A0_2 l0_2.length c0_2]] w fun e w' => ∃ b_ : Nat, e = .returned (.tuple #[.pointer (some ⟨b_, 0, none⟩), .bool false, .bool true]) ∧ Below w.heap.size w w' ∧ GFok w' b_ G := by
  have hu24 := Try.underlying24
  have hu22 := Try.underlying22
  have HR := Aside0.mk hr0_2
  have HC := Aside0.mk hc0_2
  clear hr0_2 hc0_2
  have HB := Aside0.mk (Below.refl w.heap.size w)
  have HS := Aside0.mk hs
  have HN := Aside0.mk hn
  clear hs hn
  go_enter Try.func13, Try.ntmps13
  go_wp2_with (first | ((with_reducible refine gate_dst (N := 1) rfl ?_); refine box_event ?hg (N := 1) ?hd (cs := #[.int .i64 a0_0, .int .i64 a0_1, .slice A0_2 l0_2.length c0_2]) (t := 24) ?hr ?_; (case hd => rfl); (case hg => rfl); (case hr => first | (go_simp; done) | (go_simp; rfl)); intro gb hg w3 hbox hb; have n0_ := Aside0.mk (below_step (by repeat (first | (with_reducible first | exact HB.out | apply below_alloc | apply pw_below_drewN | apply below_drew1 | refine below_set ?_ GEb.out) | exact HB.out)) hb); have n1_ := Aside0.mk hbox; have n2_ := Aside0.mk (show w.heap.size ≤ gb by rw [hg]; exact below_size HB.out); clear HB; have HB := n0_; have BKb := n1_; have GEb := n2_; clear n0_ n1_ n2_ hb hbox hg; have ha0 : w3.cell? ⟨gb, 0, none⟩ = some (.int .i64 a0_0) := (blk_cell BKb.out 0).trans rfl; have ha1 : w3.cell? ⟨gb, 1, none⟩ = some (.int .i64 a0_1) := (blk_cell BKb.out 1).trans rfl; have ha2 : w3.cell? ⟨gb, 2, none⟩ = some (.slice A0_2 l0_2.length c0_2) := (blk_cell BKb.out 2).trans rfl) | ((with_reducible refine gate_callee (f := 38) rfl ?_); refine goesL_ (some 8) rfl rfl Try.func38 (by kernel_rfl) rfl #[.agg #[.int .i64 a0_0, .int .i64 a0_1, .slice A0_2 l0_2.length c0_2]] rfl (by (try simp only [List.map_toArray, List.map_cons, List.map_nil]); first | done | rfl | (simp only [List.length_drop, List.length_take]; rfl)) ?_; (with_reducible refine (field_New.calls a0_0 a0_1 _ _ l0_2 (some G) 0 _ ?side1 ?side2 HN.out).mono ?_); (case side1 => repeat (first | exact (Kd.C_below HR.out HB.out) | (with_reducible refine Kd.C_alloc ?_ _) | (with_reducible refine Kd.C_drewN ?_ _) | (with_reducible refine Kd.C_drew ?_))); (case side2 => exact HC.out); rintro e wn ⟨bn, rfl, hb, hok⟩; refine ⟨_, rfl, ?_⟩; have ok_ := Aside0.mk hok; clear hok; have n1_ := Aside0.mk (blk_below (g := gb) (o := .cells #[.int .i64 a0_0, .int .i64 a0_1, .slice A0_2 l0_2.length c0_2] 24 (0, 0)) (by (with_reducible repeat (first | refine blk_drewN ?_ _ | refine blk_drew ?_ | refine blk_alloc ?_ _)); exact BKb.out) hb); have n2_ := Aside0.mk (below_step (by repeat (first | (with_reducible first | exact HB.out | apply below_alloc | apply pw_below_drewN | apply below_drew1 | refine below_set ?_ GEb.out) | exact HB.out)) hb); clear BKb; clear HB; have BKb := n1_; have HB := n2_; clear n1_ n2_; (try clear hb); rw [gfW_some]; have hb0 : wn.cell? ⟨gb, 0, none⟩ = some (.int .i64 a0_0) := (blk_cell BKb.out 0).trans rfl; have hb1 : wn.cell? ⟨gb, 1, none⟩ = some (.int .i64 a0_1) := (blk_cell BKb.out 1).trans rfl; have hb2 : wn.cell? ⟨gb, 2, none⟩ = some (.slice A0_2 l0_2.length c0_2) := (blk_cell BKb.out 2).trans rfl) | ((with_reducible refine gate_callee (f := 39) rfl ?_); refine goesL_ (some 12) rfl rfl Try.func39 (by kernel_rfl) rfl #[.agg #[.int .i64 a0_0, .int .i64 a0_1, .slice A0_2 l0_2.length c0_2]] rfl (by (try simp only [List.map_toArray, List.map_cons, List.map_nil]); first | done | rfl | (simp only [List.length_drop, List.length_take]; rfl)) ?_; (with_reducible refine (codewrightref04_Check.calls ks a0_0 a0_1 _ _ l0_2 0 _ ?side1 ?side2 HS.out).mono ?_); (case side1 => repeat (first | exact (Kd.C_below HR.out HB.out) | (with_reducible refine Kd.C_alloc ?_ _) | (with_reducible refine Kd.C_drewN ?_ _) | (with_reducible refine Kd.C_drew ?_))); (case side2 => exact HC.out); rintro e wa ⟨rfl, hb⟩; refine ⟨_, rfl, ?_⟩; have nk_ := Aside0.mk (GFok.belowT ok_.out hb); clear ok_; have ok_ := nk_; clear nk_; have n1_ := Aside0.mk (blk_below (g := gb) (o := .cells #[.int .i64 a0_0, .int .i64 a0_1, .slice A0_2 l0_2.length c0_2] 24 (0, 0)) (by (with_reducible repeat (first | refine blk_drewN ?_ _ | refine blk_drew ?_ | refine blk_alloc ?_ _)); exact BKb.out) hb); have n2_ := Aside0.mk (below_step (by repeat (first | (with_reducible first | exact HB.out | apply below_alloc | apply pw_below_drewN | apply below_drew1 | refine below_set ?_ GEb.out) | exact HB.out)) hb); clear BKb; clear HB; have BKb := n1_; have HB := n2_; clear n1_ n2_; (try clear hb)))
  go_ret3
  exact ⟨bn, rfl, HB.out, ok_.out⟩
open Classical in
def codewrightlaw08_open.f (P M : Int) (Mod : List Int) : Option (Option GFv × Bool × Bool) :=
  match field_New.f P M Mod with
  | none => none
  | some (o, c) =>
    if ∃ ck, ck ≠ 0 ∧ Ev (fun k => codewrightref04_Check.f k P M Mod) ck then some (none, true, c != 0)
    else if Ev (fun k => codewrightref04_Check.f k P M Mod) 0 ∧ c = 0 then (match o with | none => none | some G => some (some G, false, true))
    else none
theorem codewrightlaw08_open.calls (a0_0 : Int) (a0_1 : Int) (A0_2 : Option Addr) (c0_2 : Nat) (l0_2 : List Int) (r1 : Option GFv) (r2 : Bool) (r3 : Bool) (w : World) (hr0_2 : Kd.C (Kd.int .i64) w A0_2 l0_2.length l0_2) (hc0_2 : l0_2.length ≤ c0_2) (h : codewrightlaw08_open.f a0_0 a0_1 l0_2 = some (r1, r2, r3)) :
    Calls Try.prog 13 #[.agg #[.int .i64 a0_0, .int .i64 a0_1, .slice A0_2 l0_2.length c0_2]] w fun e w' => ∃ b_ : Nat, e = .returned (.tuple #[gfW b_ r1, .bool r2, .bool r3]) ∧ Below w.heap.size w w' ∧ gfOk w' b_ r1 := by
  unfold codewrightlaw08_open.f at h
  split at h
  · cases h
  rename_i o c hn
  split at h
  · rename_i h1
    obtain ⟨ck, hc, hk⟩ := h1
    obtain ⟨k, hk⟩ := hk.rounds
    have h' := Option.some.inj h
    simp only [Prod.mk.injEq] at h'
    obtain ⟨rfl, rfl, rfl⟩ := h'
    exact (open_bad a0_0 a0_1 A0_2 c0_2 l0_2 w hr0_2 hc0_2 k o c ck hc hn hk).mono fun e w' ⟨h1, h2⟩ => ⟨0, h1, h2, trivial⟩
  split at h
  · rename_i h1
    obtain ⟨hk, rfl⟩ := h1
    obtain ⟨k, hk⟩ := hk.rounds
    split at h
    · cases h
    · rename_i G
      have h' := Option.some.inj h
      simp only [Prod.mk.injEq] at h'
      obtain ⟨rfl, rfl, rfl⟩ := h'
      exact open_ok a0_0 a0_1 A0_2 c0_2 l0_2 w hr0_2 hc0_2 k G hn hk
  · cases h
end
end Go.Proofs.Ytbohbfggmnjpdaa.Hand
end
-- LS1
section
namespace Go.Proofs.Ytbohbfggmnjpdaa.P
noncomputable section
open Go.RowKit Go.Proofs.Ytbohbfggmnjpdaa.Hand Go.Proofs.YtbohbfggmnjpdaaW.PrintWords Go.Proofs.YtbohbfggmnjpdaaW.PrintLast Go.Proofs.YtbohbfggmnjpdaaW.PrintMore
set_option linter.unusedVariables false
set_option linter.unusedSimpArgs false
def codewrightlaw08_DlogSound.f (k : Nat) (a0_0 : Int) (a0_1 : Int) (l0_2 : List Int) (a0_3 : Int) (a0_4 : Int) (l0_5 : List Int) (a0_6 : Int) : Option (Bool) := (codewrightlaw08_open.f a0_0 a0_1 l0_2).bind fun bt102 => (optE bt102.1 (if bt102.2.1 = true then (some bt102.2.2) else (none)) (fun q105 => (if bt102.2.1 = true then (some bt102.2.2) else ((dlog_CheckOrder.f k q105 0 1 ([] : List Int)).bind fun t106 => (if t106 = 13 then ((dlog_CheckOrder.f k q105 a0_3 a0_4 l0_5).bind fun t107 => (if t107 = 0 then (if a0_6 < 1 then (some true) else (if a0_6 ≥ a0_4 then (some true) else ((field_GF_Pow.f q105 a0_3 a0_6).bind fun bt108 => (if bt108.2 = 0 then (some (bt108.1 != 1)) else (some false))))) else (some true))) else (some false))))))
set_option maxHeartbeats 8000000 in
set_option maxRecDepth 100000 in
theorem codewrightlaw08_DlogSound.calls (k : Nat) (a0_0 : Int) (a0_1 : Int) (A0_2 : Option Addr) (c0_2 : Nat) (l0_2 : List Int) (a0_3 : Int) (a0_4 : Int) (A0_5 : Option Addr) (c0_5 : Nat) (l0_5 : List Int) (a0_6 : Int) (r : Bool) (w : World) (hr0_2 : Kd.C (Kd.int .i64) w A0_2 l0_2.length l0_2) (hc0_2 : l0_2.length ≤ c0_2) (hr0_5 : Kd.C (Kd.int .i64) w A0_5 l0_5.length l0_5) (hc0_5 : l0_5.length ≤ c0_5) (h : codewrightlaw08_DlogSound.f k a0_0 a0_1 l0_2 a0_3 a0_4 l0_5 a0_6 = some r) :
    Calls Try.prog 4 #[.agg #[.int .i64 a0_0, .int .i64 a0_1, .slice A0_2 l0_2.length c0_2, .int .i64 a0_3, .int .i64 a0_4, .slice A0_5 l0_5.length c0_5, .int .i64 a0_6]] w fun e w' => e = .returned (.bool r) ∧ Below w.heap.size w w' := by
  have hu28 := Try.underlying28
  have hu24 := Try.underlying24
  have hu26 := Try.underlying26
  have HR0_2 := Aside0.mk hr0_2
  have HC0_2 := Aside0.mk hc0_2
  clear hr0_2 hc0_2
  have HR0_5 := Aside0.mk hr0_5
  have HC0_5 := Aside0.mk hc0_5
  clear hr0_5 hc0_5
  have HB := Aside0.mk (Below.refl w.heap.size w)
  have H : ((codewrightlaw08_open.f a0_0 a0_1 l0_2).bind fun bt102 => (optE bt102.1 (if bt102.2.1 = true then (some bt102.2.2) else (none)) (fun q105 => (if bt102.2.1 = true then (some bt102.2.2) else ((dlog_CheckOrder.f k q105 0 1 ([] : List Int)).bind fun t106 => (if t106 = 13 then ((dlog_CheckOrder.f k q105 a0_3 a0_4 l0_5).bind fun t107 => (if t107 = 0 then (if a0_6 < 1 then (some true) else (if a0_6 ≥ a0_4 then (some true) else ((field_GF_Pow.f q105 a0_3 a0_6).bind fun bt108 => (if bt108.2 = 0 then (some (bt108.1 != 1)) else (some false))))) else (some true))) else (some false))))))) = some r := h
  clear h
  replace H := Option.bind_eq_some_iff.mp H
  obtain ⟨⟨t102, t103, t104⟩, A20, H⟩ := H
  replace H : (optE t102 (if t103 = true then (some t104) else (none)) (fun q105 => (if t103 = true then (some t104) else ((dlog_CheckOrder.f k q105 0 1 ([] : List Int)).bind fun t106 => (if t106 = 13 then ((dlog_CheckOrder.f k q105 a0_3 a0_4 l0_5).bind fun t107 => (if t107 = 0 then (if a0_6 < 1 then (some true) else (if a0_6 ≥ a0_4 then (some true) else ((field_GF_Pow.f q105 a0_3 a0_6).bind fun bt108 => (if bt108.2 = 0 then (some (bt108.1 != 1)) else (some false))))) else (some true))) else (some false)))))) = some r := H
  have A2 := Aside0.mk A20
  clear A20
  rcases t102 with _ | q105
  · have H1 : (if t103 = true then (some t104) else (none)) = some r := H
    clear H
    have H := H1
    clear H1
    by_cases c3 : t103 = true
    · subst c3
      have H1 : (some t104) = some r := by rw [if_pos rfl] at H; exact H
      clear H
      have H := H1
      clear H1
      obtain rfl := Option.some.inj H
      go_enter Try.func4, Try.ntmps4
      go_wp2_with (first | ((with_reducible refine gate_dst (N := 1) rfl ?_); refine box_event ?hg (N := 1) ?hd (cs := #[.int .i64 a0_0, .int .i64 a0_1, .slice A0_2 l0_2.length c0_2, .int .i64 a0_3, .int .i64 a0_4, .slice A0_5 l0_5.length c0_5, .int .i64 a0_6]) (t := 28) ?hr ?_; (case hd => rfl); (case hg => rfl); (case hr => first | (go_simp; done) | (go_simp; rfl)); intro gb101 hg w4 hbox hb; have n0_ := Aside0.mk (below_step (by repeat (first | (with_reducible first | exact HB.out | apply below_alloc | apply pw_below_drewN | apply below_drew1) | exact HB.out)) hb); have n1_ := Aside0.mk (hbox); have n2_ := Aside0.mk ((by rw [hg]; exact (below_size (by repeat (first | (with_reducible first | exact HB.out | apply below_alloc | apply pw_below_drewN | apply below_drew1) | exact HB.out))) : w.heap.size ≤ gb101)); have n3_ := Aside0.mk ((by rw [hg]; exact (below_size (by repeat (first | (with_reducible first | exact HB.out | apply below_alloc | apply pw_below_drewN | apply below_drew1) | exact HB.out))) : w.heap.size ≤ gb101)); clear HB; have HB := n0_; have BK101 := n1_; have GW101 := n2_; have GE101 := n3_; clear n0_ n1_ n2_ n3_; clear hb hbox hg; have hcz5_0 : w4.cell? ⟨gb101, 0, none⟩ = some (.int .i64 a0_0) := (blk_cell BK101.out 0).trans rfl; have hcz5_1 : w4.cell? ⟨gb101, 1, none⟩ = some (.int .i64 a0_1) := (blk_cell BK101.out 1).trans rfl; have hcz5_2 : w4.cell? ⟨gb101, 2, none⟩ = some (.slice A0_2 l0_2.length c0_2) := (blk_cell BK101.out 2).trans rfl; have hcz5_3 : w4.cell? ⟨gb101, 3, none⟩ = some (.int .i64 a0_3) := (blk_cell BK101.out 3).trans rfl; have hcz5_4 : w4.cell? ⟨gb101, 4, none⟩ = some (.int .i64 a0_4) := (blk_cell BK101.out 4).trans rfl; have hcz5_5 : w4.cell? ⟨gb101, 5, none⟩ = some (.slice A0_5 l0_5.length c0_5) := (blk_cell BK101.out 5).trans rfl; have hcz5_6 : w4.cell? ⟨gb101, 6, none⟩ = some (.int .i64 a0_6) := (blk_cell BK101.out 6).trans rfl; have hfz5_0 := blk_frozen BK101.out 0; have hfz5_1 := blk_frozen BK101.out 1; have hfz5_2 := blk_frozen BK101.out 2; have hfz5_3 := blk_frozen BK101.out 3; have hfz5_4 := blk_frozen BK101.out 4; have hfz5_5 := blk_frozen BK101.out 5; have hfz5_6 := blk_frozen BK101.out 6) | ((with_reducible refine gate_callee (f := 13) rfl ?_); refine goesL_ (some 11) rfl rfl Try.func13 (by kernel_rfl) rfl #[.agg #[.int .i64 a0_0, .int .i64 a0_1, .slice A0_2 l0_2.length c0_2]] rfl (by (try simp only [List.map_toArray, List.map_cons, List.map_nil]); first | done | rfl | (simp only [List.length_drop, List.length_take]; rfl)) ?_; (with_reducible refine (codewrightlaw08_open.calls a0_0 a0_1 _ _ l0_2 none true t104 _ ?side1 ?side2 A2.out).mono ?_); (case side1 => repeat (first | exact (Kd.C_below HR0_2.out HB.out) | (with_reducible refine Kd.C_alloc ?_ _) | (with_reducible refine Kd.C_drewN ?_ _) | (with_reducible refine Kd.C_drew ?_))); (case side2 => exact HC0_2.out); rintro e w6 ⟨b_, rfl, hb, hgo⟩; refine ⟨_, rfl, ?_⟩; have n0_ := Aside0.mk (blk_below (g := gb101) (o := .cells #[.int .i64 a0_0, .int .i64 a0_1, .slice A0_2 l0_2.length c0_2, .int .i64 a0_3, .int .i64 a0_4, .slice A0_5 l0_5.length c0_5, .int .i64 a0_6] 28 (0, 0)) (by (with_reducible repeat (first | refine blk_drewN ?_ _ | refine blk_drew ?_ | refine blk_alloc ?_ _)); exact BK101.out) hb); have n1_ := Aside0.mk (below_step (by repeat (first | (with_reducible first | exact HB.out | apply below_alloc | apply pw_below_drewN | apply below_drew1 | refine below_set ?_ GE101.out) | exact HB.out)) hb); clear BK101; clear HB; have BK101 := n0_; have HB := n1_; clear n0_ n1_; (try clear hb); (try clear hb2); (try clear hk); (try clear hi); (try simp only [gfW_none, gfW_some])))
      go_ret
      exact ⟨by first | rfl | (simp [errW_none, errW_some] <;> rfl) | (simp [*, errW_none, errW_some] <;> rfl), by repeat (first | (with_reducible first | exact HB.out | apply below_alloc | apply pw_below_drewN | apply below_drew1 | refine below_set ?_ GE101.out) | exact HB.out)⟩
    · replace c3 := Bool.eq_false_iff.mpr c3
      subst c3
      have H1 : (none) = some r := by rw [if_neg (show ¬ (false = true) by decide)] at H; exact H
      clear H
      have H := H1
      clear H1
      exact absurd H (by simp)
  · have H1 : (if t103 = true then (some t104) else ((dlog_CheckOrder.f k q105 0 1 ([] : List Int)).bind fun t106 => (if t106 = 13 then ((dlog_CheckOrder.f k q105 a0_3 a0_4 l0_5).bind fun t107 => (if t107 = 0 then (if a0_6 < 1 then (some true) else (if a0_6 ≥ a0_4 then (some true) else ((field_GF_Pow.f q105 a0_3 a0_6).bind fun bt108 => (if bt108.2 = 0 then (some (bt108.1 != 1)) else (some false))))) else (some true))) else (some false)))) = some r := H
    clear H
    have H := H1
    clear H1
    by_cases c7 : t103 = true
    · subst c7
      have H1 : (some t104) = some r := by rw [if_pos rfl] at H; exact H
      clear H
      have H := H1
      clear H1
      obtain rfl := Option.some.inj H
      go_enter Try.func4, Try.ntmps4
      go_wp2_with (first | ((with_reducible refine gate_dst (N := 1) rfl ?_); refine box_event ?hg (N := 1) ?hd (cs := #[.int .i64 a0_0, .int .i64 a0_1, .slice A0_2 l0_2.length c0_2, .int .i64 a0_3, .int .i64 a0_4, .slice A0_5 l0_5.length c0_5, .int .i64 a0_6]) (t := 28) ?hr ?_; (case hd => rfl); (case hg => rfl); (case hr => first | (go_simp; done) | (go_simp; rfl)); intro gb101 hg w8 hbox hb; have n0_ := Aside0.mk (below_step (by repeat (first | (with_reducible first | exact HB.out | apply below_alloc | apply pw_below_drewN | apply below_drew1) | exact HB.out)) hb); have n1_ := Aside0.mk (hbox); have n2_ := Aside0.mk ((by rw [hg]; exact (below_size (by repeat (first | (with_reducible first | exact HB.out | apply below_alloc | apply pw_below_drewN | apply below_drew1) | exact HB.out))) : w.heap.size ≤ gb101)); have n3_ := Aside0.mk ((by rw [hg]; exact (below_size (by repeat (first | (with_reducible first | exact HB.out | apply below_alloc | apply pw_below_drewN | apply below_drew1) | exact HB.out))) : w.heap.size ≤ gb101)); clear HB; have HB := n0_; have BK101 := n1_; have GW101 := n2_; have GE101 := n3_; clear n0_ n1_ n2_ n3_; clear hb hbox hg; have hcz9_0 : w8.cell? ⟨gb101, 0, none⟩ = some (.int .i64 a0_0) := (blk_cell BK101.out 0).trans rfl; have hcz9_1 : w8.cell? ⟨gb101, 1, none⟩ = some (.int .i64 a0_1) := (blk_cell BK101.out 1).trans rfl; have hcz9_2 : w8.cell? ⟨gb101, 2, none⟩ = some (.slice A0_2 l0_2.length c0_2) := (blk_cell BK101.out 2).trans rfl; have hcz9_3 : w8.cell? ⟨gb101, 3, none⟩ = some (.int .i64 a0_3) := (blk_cell BK101.out 3).trans rfl; have hcz9_4 : w8.cell? ⟨gb101, 4, none⟩ = some (.int .i64 a0_4) := (blk_cell BK101.out 4).trans rfl; have hcz9_5 : w8.cell? ⟨gb101, 5, none⟩ = some (.slice A0_5 l0_5.length c0_5) := (blk_cell BK101.out 5).trans rfl; have hcz9_6 : w8.cell? ⟨gb101, 6, none⟩ = some (.int .i64 a0_6) := (blk_cell BK101.out 6).trans rfl; have hfz9_0 := blk_frozen BK101.out 0; have hfz9_1 := blk_frozen BK101.out 1; have hfz9_2 := blk_frozen BK101.out 2; have hfz9_3 := blk_frozen BK101.out 3; have hfz9_4 := blk_frozen BK101.out 4; have hfz9_5 := blk_frozen BK101.out 5; have hfz9_6 := blk_frozen BK101.out 6) | ((with_reducible refine gate_callee (f := 13) rfl ?_); refine goesL_ (some 11) rfl rfl Try.func13 (by kernel_rfl) rfl #[.agg #[.int .i64 a0_0, .int .i64 a0_1, .slice A0_2 l0_2.length c0_2]] rfl (by (try simp only [List.map_toArray, List.map_cons, List.map_nil]); first | done | rfl | (simp only [List.length_drop, List.length_take]; rfl)) ?_; (with_reducible refine (codewrightlaw08_open.calls a0_0 a0_1 _ _ l0_2 (some q105) true t104 _ ?side1 ?side2 A2.out).mono ?_); (case side1 => repeat (first | exact (Kd.C_below HR0_2.out HB.out) | (with_reducible refine Kd.C_alloc ?_ _) | (with_reducible refine Kd.C_drewN ?_ _) | (with_reducible refine Kd.C_drew ?_))); (case side2 => exact HC0_2.out); rintro e w10 ⟨b_q105, rfl, hb, hgo⟩; refine ⟨_, rfl, ?_⟩; have n0_ := Aside0.mk (blk_below (g := gb101) (o := .cells #[.int .i64 a0_0, .int .i64 a0_1, .slice A0_2 l0_2.length c0_2, .int .i64 a0_3, .int .i64 a0_4, .slice A0_5 l0_5.length c0_5, .int .i64 a0_6] 28 (0, 0)) (by (with_reducible repeat (first | refine blk_drewN ?_ _ | refine blk_drew ?_ | refine blk_alloc ?_ _)); exact BK101.out) hb); have n1_ := Aside0.mk (below_step (by repeat (first | (with_reducible first | exact HB.out | apply below_alloc | apply pw_below_drewN | apply below_drew1 | refine below_set ?_ GE101.out) | exact HB.out)) hb); clear BK101; clear HB; have BK101 := n0_; have HB := n1_; clear n0_ n1_; (try clear hb); (try clear hb2); (try clear hk); (try clear hi); (try simp only [gfW_none, gfW_some]); have HBZ := HB; have HRn_ := Aside0.mk (Kd.C_below HR0_2.out HB.out); clear HR0_2; have HR0_2 := HRn_; clear HRn_; have HRn_ := Aside0.mk (Kd.C_below HR0_5.out HB.out); clear HR0_5; have HR0_5 := HRn_; clear HRn_; clear HB; obtain ⟨wz, rfl⟩ : ∃ z_ : World, z_ = w := ⟨_, rfl⟩; obtain ⟨w, rfl⟩ : ∃ z_ : World, z_ = w10 := ⟨_, rfl⟩; have HB := Aside0.mk (Below.refl w.heap.size w); have HG_q105 := Aside0.mk (hgo : GFok w b_q105 q105); clear hgo))
      go_ret
      exact ⟨by first | rfl | (simp [errW_none, errW_some] <;> rfl) | (simp [*, errW_none, errW_some] <;> rfl), belowZ HBZ.out (by repeat (first | (with_reducible first | exact HB.out | apply below_alloc | apply pw_below_drewN | apply below_drew1 | refine below_set ?_ GE101.out) | exact HB.out))⟩
    · replace c7 := Bool.eq_false_iff.mpr c7
      subst c7
      have H1 : ((dlog_CheckOrder.f k q105 0 1 ([] : List Int)).bind fun t106 => (if t106 = 13 then ((dlog_CheckOrder.f k q105 a0_3 a0_4 l0_5).bind fun t107 => (if t107 = 0 then (if a0_6 < 1 then (some true) else (if a0_6 ≥ a0_4 then (some true) else ((field_GF_Pow.f q105 a0_3 a0_6).bind fun bt108 => (if bt108.2 = 0 then (some (bt108.1 != 1)) else (some false))))) else (some true))) else (some false))) = some r := by rw [if_neg (show ¬ (false = true) by decide)] at H; exact H
      clear H
      have H := H1
      clear H1
      replace H := Option.bind_eq_some_iff.mp H
      obtain ⟨t106, A110, H⟩ := H
      replace H : (if t106 = 13 then ((dlog_CheckOrder.f k q105 a0_3 a0_4 l0_5).bind fun t107 => (if t107 = 0 then (if a0_6 < 1 then (some true) else (if a0_6 ≥ a0_4 then (some true) else ((field_GF_Pow.f q105 a0_3 a0_6).bind fun bt108 => (if bt108.2 = 0 then (some (bt108.1 != 1)) else (some false))))) else (some true))) else (some false)) = some r := H
      have A11 := Aside0.mk A110
      clear A110
      by_cases c12 : t106 = 13
      · rw [if_pos c12] at H
        have c12b0 : (t106 == 13) = true := beq_iff_eq.mpr c12
        have c12b1 : (t106 != 13) = false := bne_eq_false_iff_eq.mpr c12
        clear c12
        replace H := Option.bind_eq_some_iff.mp H
        obtain ⟨t107, A130, H⟩ := H
        replace H : (if t107 = 0 then (if a0_6 < 1 then (some true) else (if a0_6 ≥ a0_4 then (some true) else ((field_GF_Pow.f q105 a0_3 a0_6).bind fun bt108 => (if bt108.2 = 0 then (some (bt108.1 != 1)) else (some false))))) else (some true)) = some r := H
        have A13 := Aside0.mk A130
        clear A130
        by_cases c14 : t107 = 0
        · rw [if_pos c14] at H
          have c14b0 : (t107 == 0) = true := beq_iff_eq.mpr c14
          have c14b1 : (t107 != 0) = false := bne_eq_false_iff_eq.mpr c14
          clear c14
          by_cases c15 : a0_6 < 1
          · rw [if_pos c15] at H
            have c15b0 : decide (a0_6 < 1) = true := decide_eq_true c15
            clear c15
            obtain rfl := Option.some.inj H
            go_enter Try.func4, Try.ntmps4
            go_wp2_with (first | ((with_reducible refine gate_dst (N := 1) rfl ?_); refine box_event ?hg (N := 1) ?hd (cs := #[.int .i64 a0_0, .int .i64 a0_1, .slice A0_2 l0_2.length c0_2, .int .i64 a0_3, .int .i64 a0_4, .slice A0_5 l0_5.length c0_5, .int .i64 a0_6]) (t := 28) ?hr ?_; (case hd => rfl); (case hg => rfl); (case hr => first | (go_simp; done) | (go_simp; rfl)); intro gb101 hg w16 hbox hb; have n0_ := Aside0.mk (below_step (by repeat (first | (with_reducible first | exact HB.out | apply below_alloc | apply pw_below_drewN | apply below_drew1) | exact HB.out)) hb); have n1_ := Aside0.mk (hbox); have n2_ := Aside0.mk ((by rw [hg]; exact (below_size (by repeat (first | (with_reducible first | exact HB.out | apply below_alloc | apply pw_below_drewN | apply below_drew1) | exact HB.out))) : w.heap.size ≤ gb101)); have n3_ := Aside0.mk ((by rw [hg]; exact (below_size (by repeat (first | (with_reducible first | exact HB.out | apply below_alloc | apply pw_below_drewN | apply below_drew1) | exact HB.out))) : w.heap.size ≤ gb101)); clear HB; have HB := n0_; have BK101 := n1_; have GW101 := n2_; have GE101 := n3_; clear n0_ n1_ n2_ n3_; clear hb hbox hg; have hcz17_0 : w16.cell? ⟨gb101, 0, none⟩ = some (.int .i64 a0_0) := (blk_cell BK101.out 0).trans rfl; have hcz17_1 : w16.cell? ⟨gb101, 1, none⟩ = some (.int .i64 a0_1) := (blk_cell BK101.out 1).trans rfl; have hcz17_2 : w16.cell? ⟨gb101, 2, none⟩ = some (.slice A0_2 l0_2.length c0_2) := (blk_cell BK101.out 2).trans rfl; have hcz17_3 : w16.cell? ⟨gb101, 3, none⟩ = some (.int .i64 a0_3) := (blk_cell BK101.out 3).trans rfl; have hcz17_4 : w16.cell? ⟨gb101, 4, none⟩ = some (.int .i64 a0_4) := (blk_cell BK101.out 4).trans rfl; have hcz17_5 : w16.cell? ⟨gb101, 5, none⟩ = some (.slice A0_5 l0_5.length c0_5) := (blk_cell BK101.out 5).trans rfl; have hcz17_6 : w16.cell? ⟨gb101, 6, none⟩ = some (.int .i64 a0_6) := (blk_cell BK101.out 6).trans rfl; have hfz17_0 := blk_frozen BK101.out 0; have hfz17_1 := blk_frozen BK101.out 1; have hfz17_2 := blk_frozen BK101.out 2; have hfz17_3 := blk_frozen BK101.out 3; have hfz17_4 := blk_frozen BK101.out 4; have hfz17_5 := blk_frozen BK101.out 5; have hfz17_6 := blk_frozen BK101.out 6) | ((with_reducible refine gate_callee (f := 13) rfl ?_); refine goesL_ (some 11) rfl rfl Try.func13 (by kernel_rfl) rfl #[.agg #[.int .i64 a0_0, .int .i64 a0_1, .slice A0_2 l0_2.length c0_2]] rfl (by (try simp only [List.map_toArray, List.map_cons, List.map_nil]); first | done | rfl | (simp only [List.length_drop, List.length_take]; rfl)) ?_; (with_reducible refine (codewrightlaw08_open.calls a0_0 a0_1 _ _ l0_2 (some q105) false t104 _ ?side1 ?side2 A2.out).mono ?_); (case side1 => repeat (first | exact (Kd.C_below HR0_2.out HB.out) | (with_reducible refine Kd.C_alloc ?_ _) | (with_reducible refine Kd.C_drewN ?_ _) | (with_reducible refine Kd.C_drew ?_))); (case side2 => exact HC0_2.out); rintro e w18 ⟨b_q105, rfl, hb, hgo⟩; refine ⟨_, rfl, ?_⟩; have n0_ := Aside0.mk (blk_below (g := gb101) (o := .cells #[.int .i64 a0_0, .int .i64 a0_1, .slice A0_2 l0_2.length c0_2, .int .i64 a0_3, .int .i64 a0_4, .slice A0_5 l0_5.length c0_5, .int .i64 a0_6] 28 (0, 0)) (by (with_reducible repeat (first | refine blk_drewN ?_ _ | refine blk_drew ?_ | refine blk_alloc ?_ _)); exact BK101.out) hb); have n1_ := Aside0.mk (below_step (by repeat (first | (with_reducible first | exact HB.out | apply below_alloc | apply pw_below_drewN | apply below_drew1 | refine below_set ?_ GE101.out) | exact HB.out)) hb); clear BK101; clear HB; have BK101 := n0_; have HB := n1_; clear n0_ n1_; (try clear hb); (try clear hb2); (try clear hk); (try clear hi); (try simp only [gfW_none, gfW_some]); have HBZ := HB; have HRn_ := Aside0.mk (Kd.C_below HR0_2.out HB.out); clear HR0_2; have HR0_2 := HRn_; clear HRn_; have HRn_ := Aside0.mk (Kd.C_below HR0_5.out HB.out); clear HR0_5; have HR0_5 := HRn_; clear HRn_; clear HB; obtain ⟨wz, rfl⟩ : ∃ z_ : World, z_ = w := ⟨_, rfl⟩; obtain ⟨w, rfl⟩ : ∃ z_ : World, z_ = w18 := ⟨_, rfl⟩; have HB := Aside0.mk (Below.refl w.heap.size w); have HG_q105 := Aside0.mk (hgo : GFok w b_q105 q105); clear hgo) | ((with_reducible refine gate_callee (f := 14) rfl ?_); refine goesL_ (some 19) rfl rfl Try.func14 (by kernel_rfl) rfl #[.pointer (some ⟨b_q105, 0, none⟩), .int .i64 0, .agg #[.int .i64 1, .slice none 0 0]] rfl (by (try simp only [List.map_toArray, List.map_cons, List.map_nil]); first | done | rfl | (simp only [List.length_drop, List.length_take]; rfl)) ?_; (refine (dlog_CheckOrder.calls k b_q105 q105 0 1 _ _ ([] : List Int) t106 _ ?side1 ?side2 ?side3 A11.out).mono ?_); (case side1 => exact GFok.belowT HG_q105.out (by repeat (first | (with_reducible first | exact HB.out | apply below_alloc | apply pw_below_drewN | apply below_drew1 | refine below_set ?_ GE101.out) | exact HB.out))); (case side2 => exact Kd.C_nil _ _); (case side3 => exact Nat.le_refl _); rintro e w19 ⟨rfl, hb⟩; refine ⟨_, rfl, ?_⟩; have n0_ := Aside0.mk (blk_below (g := gb101) (o := .cells #[.int .i64 a0_0, .int .i64 a0_1, .slice A0_2 l0_2.length c0_2, .int .i64 a0_3, .int .i64 a0_4, .slice A0_5 l0_5.length c0_5, .int .i64 a0_6] 28 (0, 0)) (by (with_reducible repeat (first | refine blk_drewN ?_ _ | refine blk_drew ?_ | refine blk_alloc ?_ _)); exact BK101.out) hb); have n1_ := Aside0.mk (below_step (by repeat (first | (with_reducible first | exact HB.out | apply below_alloc | apply pw_below_drewN | apply below_drew1 | refine below_set ?_ GE101.out) | exact HB.out)) hb); clear BK101; clear HB; have BK101 := n0_; have HB := n1_; clear n0_ n1_; (try clear hb); (try clear hb2); (try clear hk); (try clear hi); have hcz20_0 : w19.cell? ⟨gb101, 0, none⟩ = some (.int .i64 a0_0) := (blk_cell BK101.out 0).trans rfl; have hcz20_1 : w19.cell? ⟨gb101, 1, none⟩ = some (.int .i64 a0_1) := (blk_cell BK101.out 1).trans rfl; have hcz20_2 : w19.cell? ⟨gb101, 2, none⟩ = some (.slice A0_2 l0_2.length c0_2) := (blk_cell BK101.out 2).trans rfl; have hcz20_3 : w19.cell? ⟨gb101, 3, none⟩ = some (.int .i64 a0_3) := (blk_cell BK101.out 3).trans rfl; have hcz20_4 : w19.cell? ⟨gb101, 4, none⟩ = some (.int .i64 a0_4) := (blk_cell BK101.out 4).trans rfl; have hcz20_5 : w19.cell? ⟨gb101, 5, none⟩ = some (.slice A0_5 l0_5.length c0_5) := (blk_cell BK101.out 5).trans rfl; have hcz20_6 : w19.cell? ⟨gb101, 6, none⟩ = some (.int .i64 a0_6) := (blk_cell BK101.out 6).trans rfl; have hfz20_0 := blk_frozen BK101.out 0; have hfz20_1 := blk_frozen BK101.out 1; have hfz20_2 := blk_frozen BK101.out 2; have hfz20_3 := blk_frozen BK101.out 3; have hfz20_4 := blk_frozen BK101.out 4; have hfz20_5 := blk_frozen BK101.out 5; have hfz20_6 := blk_frozen BK101.out 6) | ((with_reducible refine gate_callee (f := 14) rfl ?_); refine goesL_ (some 26) rfl rfl Try.func14 (by kernel_rfl) rfl #[.pointer (some ⟨b_q105, 0, none⟩), .int .i64 a0_3, .agg #[.int .i64 a0_4, .slice A0_5 l0_5.length c0_5]] rfl (by (try simp only [List.map_toArray, List.map_cons, List.map_nil]); first | done | rfl | (simp only [List.length_drop, List.length_take]; rfl)) ?_; (with_reducible refine (dlog_CheckOrder.calls k b_q105 q105 a0_3 a0_4 _ _ l0_5 t107 _ ?side1 ?side2 ?side3 A13.out).mono ?_); (case side1 => exact GFok.belowT HG_q105.out (by repeat (first | (with_reducible first | exact HB.out | apply below_alloc | apply pw_below_drewN | apply below_drew1 | refine below_set ?_ GE101.out) | exact HB.out))); (case side2 => repeat (first | exact (Kd.C_below HR0_5.out HB.out) | (with_reducible refine Kd.C_alloc ?_ _) | (with_reducible refine Kd.C_drewN ?_ _) | (with_reducible refine Kd.C_drew ?_))); (case side3 => exact HC0_5.out); rintro e w21 ⟨rfl, hb⟩; refine ⟨_, rfl, ?_⟩; have n0_ := Aside0.mk (blk_below (g := gb101) (o := .cells #[.int .i64 a0_0, .int .i64 a0_1, .slice A0_2 l0_2.length c0_2, .int .i64 a0_3, .int .i64 a0_4, .slice A0_5 l0_5.length c0_5, .int .i64 a0_6] 28 (0, 0)) (by (with_reducible repeat (first | refine blk_drewN ?_ _ | refine blk_drew ?_ | refine blk_alloc ?_ _)); exact BK101.out) hb); have n1_ := Aside0.mk (below_step (by repeat (first | (with_reducible first | exact HB.out | apply below_alloc | apply pw_below_drewN | apply below_drew1 | refine below_set ?_ GE101.out) | exact HB.out)) hb); clear BK101; clear HB; have BK101 := n0_; have HB := n1_; clear n0_ n1_; (try clear hb); (try clear hb2); (try clear hk); (try clear hi); have hcz22_0 : w21.cell? ⟨gb101, 0, none⟩ = some (.int .i64 a0_0) := (blk_cell BK101.out 0).trans rfl; have hcz22_1 : w21.cell? ⟨gb101, 1, none⟩ = some (.int .i64 a0_1) := (blk_cell BK101.out 1).trans rfl; have hcz22_2 : w21.cell? ⟨gb101, 2, none⟩ = some (.slice A0_2 l0_2.length c0_2) := (blk_cell BK101.out 2).trans rfl; have hcz22_3 : w21.cell? ⟨gb101, 3, none⟩ = some (.int .i64 a0_3) := (blk_cell BK101.out 3).trans rfl; have hcz22_4 : w21.cell? ⟨gb101, 4, none⟩ = some (.int .i64 a0_4) := (blk_cell BK101.out 4).trans rfl; have hcz22_5 : w21.cell? ⟨gb101, 5, none⟩ = some (.slice A0_5 l0_5.length c0_5) := (blk_cell BK101.out 5).trans rfl; have hcz22_6 : w21.cell? ⟨gb101, 6, none⟩ = some (.int .i64 a0_6) := (blk_cell BK101.out 6).trans rfl; have hfz22_0 := blk_frozen BK101.out 0; have hfz22_1 := blk_frozen BK101.out 1; have hfz22_2 := blk_frozen BK101.out 2; have hfz22_3 := blk_frozen BK101.out 3; have hfz22_4 := blk_frozen BK101.out 4; have hfz22_5 := blk_frozen BK101.out 5; have hfz22_6 := blk_frozen BK101.out 6))
            go_ret
            exact ⟨by first | rfl | (simp [errW_none, errW_some] <;> rfl) | (simp [*, errW_none, errW_some] <;> rfl), belowZ HBZ.out (by repeat (first | (with_reducible first | exact HB.out | apply below_alloc | apply pw_below_drewN | apply below_drew1 | refine below_set ?_ GE101.out) | exact HB.out))⟩
          · rw [if_neg c15] at H
            have c15b0 : decide (a0_6 < 1) = false := decide_eq_false c15
            clear c15
            by_cases c23 : a0_6 ≥ a0_4
            · rw [if_pos c23] at H
              have c23b0 : decide (a0_4 ≤ a0_6) = true := decide_eq_true c23
              clear c23
              obtain rfl := Option.some.inj H
              go_enter Try.func4, Try.ntmps4
              go_wp2_with (first | ((with_reducible refine gate_dst (N := 1) rfl ?_); refine box_event ?hg (N := 1) ?hd (cs := #[.int .i64 a0_0, .int .i64 a0_1, .slice A0_2 l0_2.length c0_2, .int .i64 a0_3, .int .i64 a0_4, .slice A0_5 l0_5.length c0_5, .int .i64 a0_6]) (t := 28) ?hr ?_; (case hd => rfl); (case hg => rfl); (case hr => first | (go_simp; done) | (go_simp; rfl)); intro gb101 hg w24 hbox hb; have n0_ := Aside0.mk (below_step (by repeat (first | (with_reducible first | exact HB.out | apply below_alloc | apply pw_below_drewN | apply below_drew1) | exact HB.out)) hb); have n1_ := Aside0.mk (hbox); have n2_ := Aside0.mk ((by rw [hg]; exact (below_size (by repeat (first | (with_reducible first | exact HB.out | apply below_alloc | apply pw_below_drewN | apply below_drew1) | exact HB.out))) : w.heap.size ≤ gb101)); have n3_ := Aside0.mk ((by rw [hg]; exact (below_size (by repeat (first | (with_reducible first | exact HB.out | apply below_alloc | apply pw_below_drewN | apply below_drew1) | exact HB.out))) : w.heap.size ≤ gb101)); clear HB; have HB := n0_; have BK101 := n1_; have GW101 := n2_; have GE101 := n3_; clear n0_ n1_ n2_ n3_; clear hb hbox hg; have hcz25_0 : w24.cell? ⟨gb101, 0, none⟩ = some (.int .i64 a0_0) := (blk_cell BK101.out 0).trans rfl; have hcz25_1 : w24.cell? ⟨gb101, 1, none⟩ = some (.int .i64 a0_1) := (blk_cell BK101.out 1).trans rfl; have hcz25_2 : w24.cell? ⟨gb101, 2, none⟩ = some (.slice A0_2 l0_2.length c0_2) := (blk_cell BK101.out 2).trans rfl; have hcz25_3 : w24.cell? ⟨gb101, 3, none⟩ = some (.int .i64 a0_3) := (blk_cell BK101.out 3).trans rfl; have hcz25_4 : w24.cell? ⟨gb101, 4, none⟩ = some (.int .i64 a0_4) := (blk_cell BK101.out 4).trans rfl; have hcz25_5 : w24.cell? ⟨gb101, 5, none⟩ = some (.slice A0_5 l0_5.length c0_5) := (blk_cell BK101.out 5).trans rfl; have hcz25_6 : w24.cell? ⟨gb101, 6, none⟩ = some (.int .i64 a0_6) := (blk_cell BK101.out 6).trans rfl; have hfz25_0 := blk_frozen BK101.out 0; have hfz25_1 := blk_frozen BK101.out 1; have hfz25_2 := blk_frozen BK101.out 2; have hfz25_3 := blk_frozen BK101.out 3; have hfz25_4 := blk_frozen BK101.out 4; have hfz25_5 := blk_frozen BK101.out 5; have hfz25_6 := blk_frozen BK101.out 6) | ((with_reducible refine gate_callee (f := 13) rfl ?_); refine goesL_ (some 11) rfl rfl Try.func13 (by kernel_rfl) rfl #[.agg #[.int .i64 a0_0, .int .i64 a0_1, .slice A0_2 l0_2.length c0_2]] rfl (by (try simp only [List.map_toArray, List.map_cons, List.map_nil]); first | done | rfl | (simp only [List.length_drop, List.length_take]; rfl)) ?_; (with_reducible refine (codewrightlaw08_open.calls a0_0 a0_1 _ _ l0_2 (some q105) false t104 _ ?side1 ?side2 A2.out).mono ?_); (case side1 => repeat (first | exact (Kd.C_below HR0_2.out HB.out) | (with_reducible refine Kd.C_alloc ?_ _) | (with_reducible refine Kd.C_drewN ?_ _) | (with_reducible refine Kd.C_drew ?_))); (case side2 => exact HC0_2.out); rintro e w26 ⟨b_q105, rfl, hb, hgo⟩; refine ⟨_, rfl, ?_⟩; have n0_ := Aside0.mk (blk_below (g := gb101) (o := .cells #[.int .i64 a0_0, .int .i64 a0_1, .slice A0_2 l0_2.length c0_2, .int .i64 a0_3, .int .i64 a0_4, .slice A0_5 l0_5.length c0_5, .int .i64 a0_6] 28 (0, 0)) (by (with_reducible repeat (first | refine blk_drewN ?_ _ | refine blk_drew ?_ | refine blk_alloc ?_ _)); exact BK101.out) hb); have n1_ := Aside0.mk (below_step (by repeat (first | (with_reducible first | exact HB.out | apply below_alloc | apply pw_below_drewN | apply below_drew1 | refine below_set ?_ GE101.out) | exact HB.out)) hb); clear BK101; clear HB; have BK101 := n0_; have HB := n1_; clear n0_ n1_; (try clear hb); (try clear hb2); (try clear hk); (try clear hi); (try simp only [gfW_none, gfW_some]); have HBZ := HB; have HRn_ := Aside0.mk (Kd.C_below HR0_2.out HB.out); clear HR0_2; have HR0_2 := HRn_; clear HRn_; have HRn_ := Aside0.mk (Kd.C_below HR0_5.out HB.out); clear HR0_5; have HR0_5 := HRn_; clear HRn_; clear HB; obtain ⟨wz, rfl⟩ : ∃ z_ : World, z_ = w := ⟨_, rfl⟩; obtain ⟨w, rfl⟩ : ∃ z_ : World, z_ = w26 := ⟨_, rfl⟩; have HB := Aside0.mk (Below.refl w.heap.size w); have HG_q105 := Aside0.mk (hgo : GFok w b_q105 q105); clear hgo) | ((with_reducible refine gate_callee (f := 14) rfl ?_); refine goesL_ (some 19) rfl rfl Try.func14 (by kernel_rfl) rfl #[.pointer (some ⟨b_q105, 0, none⟩), .int .i64 0, .agg #[.int .i64 1, .slice none 0 0]] rfl (by (try simp only [List.map_toArray, List.map_cons, List.map_nil]); first | done | rfl | (simp only [List.length_drop, List.length_take]; rfl)) ?_; (refine (dlog_CheckOrder.calls k b_q105 q105 0 1 _ _ ([] : List Int) t106 _ ?side1 ?side2 ?side3 A11.out).mono ?_); (case side1 => exact GFok.belowT HG_q105.out (by repeat (first | (with_reducible first | exact HB.out | apply below_alloc | apply pw_below_drewN | apply below_drew1 | refine below_set ?_ GE101.out) | exact HB.out))); (case side2 => exact Kd.C_nil _ _); (case side3 => exact Nat.le_refl _); rintro e w27 ⟨rfl, hb⟩; refine ⟨_, rfl, ?_⟩; have n0_ := Aside0.mk (blk_below (g := gb101) (o := .cells #[.int .i64 a0_0, .int .i64 a0_1, .slice A0_2 l0_2.length c0_2, .int .i64 a0_3, .int .i64 a0_4, .slice A0_5 l0_5.length c0_5, .int .i64 a0_6] 28 (0, 0)) (by (with_reducible repeat (first | refine blk_drewN ?_ _ | refine blk_drew ?_ | refine blk_alloc ?_ _)); exact BK101.out) hb); have n1_ := Aside0.mk (below_step (by repeat (first | (with_reducible first | exact HB.out | apply below_alloc | apply pw_below_drewN | apply below_drew1 | refine below_set ?_ GE101.out) | exact HB.out)) hb); clear BK101; clear HB; have BK101 := n0_; have HB := n1_; clear n0_ n1_; (try clear hb); (try clear hb2); (try clear hk); (try clear hi); have hcz28_0 : w27.cell? ⟨gb101, 0, none⟩ = some (.int .i64 a0_0) := (blk_cell BK101.out 0).trans rfl; have hcz28_1 : w27.cell? ⟨gb101, 1, none⟩ = some (.int .i64 a0_1) := (blk_cell BK101.out 1).trans rfl; have hcz28_2 : w27.cell? ⟨gb101, 2, none⟩ = some (.slice A0_2 l0_2.length c0_2) := (blk_cell BK101.out 2).trans rfl; have hcz28_3 : w27.cell? ⟨gb101, 3, none⟩ = some (.int .i64 a0_3) := (blk_cell BK101.out 3).trans rfl; have hcz28_4 : w27.cell? ⟨gb101, 4, none⟩ = some (.int .i64 a0_4) := (blk_cell BK101.out 4).trans rfl; have hcz28_5 : w27.cell? ⟨gb101, 5, none⟩ = some (.slice A0_5 l0_5.length c0_5) := (blk_cell BK101.out 5).trans rfl; have hcz28_6 : w27.cell? ⟨gb101, 6, none⟩ = some (.int .i64 a0_6) := (blk_cell BK101.out 6).trans rfl; have hfz28_0 := blk_frozen BK101.out 0; have hfz28_1 := blk_frozen BK101.out 1; have hfz28_2 := blk_frozen BK101.out 2; have hfz28_3 := blk_frozen BK101.out 3; have hfz28_4 := blk_frozen BK101.out 4; have hfz28_5 := blk_frozen BK101.out 5; have hfz28_6 := blk_frozen BK101.out 6) | ((with_reducible refine gate_callee (f := 14) rfl ?_); refine goesL_ (some 26) rfl rfl Try.func14 (by kernel_rfl) rfl #[.pointer (some ⟨b_q105, 0, none⟩), .int .i64 a0_3, .agg #[.int .i64 a0_4, .slice A0_5 l0_5.length c0_5]] rfl (by (try simp only [List.map_toArray, List.map_cons, List.map_nil]); first | done | rfl | (simp only [List.length_drop, List.length_take]; rfl)) ?_; (with_reducible refine (dlog_CheckOrder.calls k b_q105 q105 a0_3 a0_4 _ _ l0_5 t107 _ ?side1 ?side2 ?side3 A13.out).mono ?_); (case side1 => exact GFok.belowT HG_q105.out (by repeat (first | (with_reducible first | exact HB.out | apply below_alloc | apply pw_below_drewN | apply below_drew1 | refine below_set ?_ GE101.out) | exact HB.out))); (case side2 => repeat (first | exact (Kd.C_below HR0_5.out HB.out) | (with_reducible refine Kd.C_alloc ?_ _) | (with_reducible refine Kd.C_drewN ?_ _) | (with_reducible refine Kd.C_drew ?_))); (case side3 => exact HC0_5.out); rintro e w29 ⟨rfl, hb⟩; refine ⟨_, rfl, ?_⟩; have n0_ := Aside0.mk (blk_below (g := gb101) (o := .cells #[.int .i64 a0_0, .int .i64 a0_1, .slice A0_2 l0_2.length c0_2, .int .i64 a0_3, .int .i64 a0_4, .slice A0_5 l0_5.length c0_5, .int .i64 a0_6] 28 (0, 0)) (by (with_reducible repeat (first | refine blk_drewN ?_ _ | refine blk_drew ?_ | refine blk_alloc ?_ _)); exact BK101.out) hb); have n1_ := Aside0.mk (below_step (by repeat (first | (with_reducible first | exact HB.out | apply below_alloc | apply pw_below_drewN | apply below_drew1 | refine below_set ?_ GE101.out) | exact HB.out)) hb); clear BK101; clear HB; have BK101 := n0_; have HB := n1_; clear n0_ n1_; (try clear hb); (try clear hb2); (try clear hk); (try clear hi); have hcz30_0 : w29.cell? ⟨gb101, 0, none⟩ = some (.int .i64 a0_0) := (blk_cell BK101.out 0).trans rfl; have hcz30_1 : w29.cell? ⟨gb101, 1, none⟩ = some (.int .i64 a0_1) := (blk_cell BK101.out 1).trans rfl; have hcz30_2 : w29.cell? ⟨gb101, 2, none⟩ = some (.slice A0_2 l0_2.length c0_2) := (blk_cell BK101.out 2).trans rfl; have hcz30_3 : w29.cell? ⟨gb101, 3, none⟩ = some (.int .i64 a0_3) := (blk_cell BK101.out 3).trans rfl; have hcz30_4 : w29.cell? ⟨gb101, 4, none⟩ = some (.int .i64 a0_4) := (blk_cell BK101.out 4).trans rfl; have hcz30_5 : w29.cell? ⟨gb101, 5, none⟩ = some (.slice A0_5 l0_5.length c0_5) := (blk_cell BK101.out 5).trans rfl; have hcz30_6 : w29.cell? ⟨gb101, 6, none⟩ = some (.int .i64 a0_6) := (blk_cell BK101.out 6).trans rfl; have hfz30_0 := blk_frozen BK101.out 0; have hfz30_1 := blk_frozen BK101.out 1; have hfz30_2 := blk_frozen BK101.out 2; have hfz30_3 := blk_frozen BK101.out 3; have hfz30_4 := blk_frozen BK101.out 4; have hfz30_5 := blk_frozen BK101.out 5; have hfz30_6 := blk_frozen BK101.out 6))
              go_ret
              exact ⟨by first | rfl | (simp [errW_none, errW_some] <;> rfl) | (simp [*, errW_none, errW_some] <;> rfl), belowZ HBZ.out (by repeat (first | (with_reducible first | exact HB.out | apply below_alloc | apply pw_below_drewN | apply below_drew1 | refine below_set ?_ GE101.out) | exact HB.out))⟩
            · rw [if_neg c23] at H
              have c23b0 : decide (a0_4 ≤ a0_6) = false := decide_eq_false c23
              clear c23
              replace H := Option.bind_eq_some_iff.mp H
              obtain ⟨⟨t108, t109⟩, A310, H⟩ := H
              replace H : (if t109 = 0 then (some (t108 != 1)) else (some false)) = some r := H
              have A31 := Aside0.mk A310
              clear A310
              by_cases c32 : t109 = 0
              · rw [if_pos c32] at H
                have c32b0 : (t109 == 0) = true := beq_iff_eq.mpr c32
                have c32b1 : (t109 != 0) = false := bne_eq_false_iff_eq.mpr c32
                clear c32
                obtain rfl := Option.some.inj H
                go_enter Try.func4, Try.ntmps4
                go_wp2_with (first | ((with_reducible refine gate_dst (N := 1) rfl ?_); refine box_event ?hg (N := 1) ?hd (cs := #[.int .i64 a0_0, .int .i64 a0_1, .slice A0_2 l0_2.length c0_2, .int .i64 a0_3, .int .i64 a0_4, .slice A0_5 l0_5.length c0_5, .int .i64 a0_6]) (t := 28) ?hr ?_; (case hd => rfl); (case hg => rfl); (case hr => first | (go_simp; done) | (go_simp; rfl)); intro gb101 hg w33 hbox hb; have n0_ := Aside0.mk (below_step (by repeat (first | (with_reducible first | exact HB.out | apply below_alloc | apply pw_below_drewN | apply below_drew1) | exact HB.out)) hb); have n1_ := Aside0.mk (hbox); have n2_ := Aside0.mk ((by rw [hg]; exact (below_size (by repeat (first | (with_reducible first | exact HB.out | apply below_alloc | apply pw_below_drewN | apply below_drew1) | exact HB.out))) : w.heap.size ≤ gb101)); have n3_ := Aside0.mk ((by rw [hg]; exact (below_size (by repeat (first | (with_reducible first | exact HB.out | apply below_alloc | apply pw_below_drewN | apply below_drew1) | exact HB.out))) : w.heap.size ≤ gb101)); clear HB; have HB := n0_; have BK101 := n1_; have GW101 := n2_; have GE101 := n3_; clear n0_ n1_ n2_ n3_; clear hb hbox hg; have hcz34_0 : w33.cell? ⟨gb101, 0, none⟩ = some (.int .i64 a0_0) := (blk_cell BK101.out 0).trans rfl; have hcz34_1 : w33.cell? ⟨gb101, 1, none⟩ = some (.int .i64 a0_1) := (blk_cell BK101.out 1).trans rfl; have hcz34_2 : w33.cell? ⟨gb101, 2, none⟩ = some (.slice A0_2 l0_2.length c0_2) := (blk_cell BK101.out 2).trans rfl; have hcz34_3 : w33.cell? ⟨gb101, 3, none⟩ = some (.int .i64 a0_3) := (blk_cell BK101.out 3).trans rfl; have hcz34_4 : w33.cell? ⟨gb101, 4, none⟩ = some (.int .i64 a0_4) := (blk_cell BK101.out 4).trans rfl; have hcz34_5 : w33.cell? ⟨gb101, 5, none⟩ = some (.slice A0_5 l0_5.length c0_5) := (blk_cell BK101.out 5).trans rfl; have hcz34_6 : w33.cell? ⟨gb101, 6, none⟩ = some (.int .i64 a0_6) := (blk_cell BK101.out 6).trans rfl; have hfz34_0 := blk_frozen BK101.out 0; have hfz34_1 := blk_frozen BK101.out 1; have hfz34_2 := blk_frozen BK101.out 2; have hfz34_3 := blk_frozen BK101.out 3; have hfz34_4 := blk_frozen BK101.out 4; have hfz34_5 := blk_frozen BK101.out 5; have hfz34_6 := blk_frozen BK101.out 6) | ((with_reducible refine gate_callee (f := 13) rfl ?_); refine goesL_ (some 11) rfl rfl Try.func13 (by kernel_rfl) rfl #[.agg #[.int .i64 a0_0, .int .i64 a0_1, .slice A0_2 l0_2.length c0_2]] rfl (by (try simp only [List.map_toArray, List.map_cons, List.map_nil]); first | done | rfl | (simp only [List.length_drop, List.length_take]; rfl)) ?_; (with_reducible refine (codewrightlaw08_open.calls a0_0 a0_1 _ _ l0_2 (some q105) false t104 _ ?side1 ?side2 A2.out).mono ?_); (case side1 => repeat (first | exact (Kd.C_below HR0_2.out HB.out) | (with_reducible refine Kd.C_alloc ?_ _) | (with_reducible refine Kd.C_drewN ?_ _) | (with_reducible refine Kd.C_drew ?_))); (case side2 => exact HC0_2.out); rintro e w35 ⟨b_q105, rfl, hb, hgo⟩; refine ⟨_, rfl, ?_⟩; have n0_ := Aside0.mk (blk_below (g := gb101) (o := .cells #[.int .i64 a0_0, .int .i64 a0_1, .slice A0_2 l0_2.length c0_2, .int .i64 a0_3, .int .i64 a0_4, .slice A0_5 l0_5.length c0_5, .int .i64 a0_6] 28 (0, 0)) (by (with_reducible repeat (first | refine blk_drewN ?_ _ | refine blk_drew ?_ | refine blk_alloc ?_ _)); exact BK101.out) hb); have n1_ := Aside0.mk (below_step (by repeat (first | (with_reducible first | exact HB.out | apply below_alloc | apply pw_below_drewN | apply below_drew1 | refine below_set ?_ GE101.out) | exact HB.out)) hb); clear BK101; clear HB; have BK101 := n0_; have HB := n1_; clear n0_ n1_; (try clear hb); (try clear hb2); (try clear hk); (try clear hi); (try simp only [gfW_none, gfW_some]); have HBZ := HB; have HRn_ := Aside0.mk (Kd.C_below HR0_2.out HB.out); clear HR0_2; have HR0_2 := HRn_; clear HRn_; have HRn_ := Aside0.mk (Kd.C_below HR0_5.out HB.out); clear HR0_5; have HR0_5 := HRn_; clear HRn_; clear HB; obtain ⟨wz, rfl⟩ : ∃ z_ : World, z_ = w := ⟨_, rfl⟩; obtain ⟨w, rfl⟩ : ∃ z_ : World, z_ = w35 := ⟨_, rfl⟩; have HB := Aside0.mk (Below.refl w.heap.size w); have HG_q105 := Aside0.mk (hgo : GFok w b_q105 q105); clear hgo) | ((with_reducible refine gate_callee (f := 14) rfl ?_); refine goesL_ (some 19) rfl rfl Try.func14 (by kernel_rfl) rfl #[.pointer (some ⟨b_q105, 0, none⟩), .int .i64 0, .agg #[.int .i64 1, .slice none 0 0]] rfl (by (try simp only [List.map_toArray, List.map_cons, List.map_nil]); first | done | rfl | (simp only [List.length_drop, List.length_take]; rfl)) ?_; (refine (dlog_CheckOrder.calls k b_q105 q105 0 1 _ _ ([] : List Int) t106 _ ?side1 ?side2 ?side3 A11.out).mono ?_); (case side1 => exact GFok.belowT HG_q105.out (by repeat (first | (with_reducible first | exact HB.out | apply below_alloc | apply pw_below_drewN | apply below_drew1 | refine below_set ?_ GE101.out) | exact HB.out))); (case side2 => exact Kd.C_nil _ _); (case side3 => exact Nat.le_refl _); rintro e w36 ⟨rfl, hb⟩; refine ⟨_, rfl, ?_⟩; have n0_ := Aside0.mk (blk_below (g := gb101) (o := .cells #[.int .i64 a0_0, .int .i64 a0_1, .slice A0_2 l0_2.length c0_2, .int .i64 a0_3, .int .i64 a0_4, .slice A0_5 l0_5.length c0_5, .int .i64 a0_6] 28 (0, 0)) (by (with_reducible repeat (first | refine blk_drewN ?_ _ | refine blk_drew ?_ | refine blk_alloc ?_ _)); exact BK101.out) hb); have n1_ := Aside0.mk (below_step (by repeat (first | (with_reducible first | exact HB.out | apply below_alloc | apply pw_below_drewN | apply below_drew1 | refine below_set ?_ GE101.out) | exact HB.out)) hb); clear BK101; clear HB; have BK101 := n0_; have HB := n1_; clear n0_ n1_; (try clear hb); (try clear hb2); (try clear hk); (try clear hi); have hcz37_0 : w36.cell? ⟨gb101, 0, none⟩ = some (.int .i64 a0_0) := (blk_cell BK101.out 0).trans rfl; have hcz37_1 : w36.cell? ⟨gb101, 1, none⟩ = some (.int .i64 a0_1) := (blk_cell BK101.out 1).trans rfl; have hcz37_2 : w36.cell? ⟨gb101, 2, none⟩ = some (.slice A0_2 l0_2.length c0_2) := (blk_cell BK101.out 2).trans rfl; have hcz37_3 : w36.cell? ⟨gb101, 3, none⟩ = some (.int .i64 a0_3) := (blk_cell BK101.out 3).trans rfl; have hcz37_4 : w36.cell? ⟨gb101, 4, none⟩ = some (.int .i64 a0_4) := (blk_cell BK101.out 4).trans rfl; have hcz37_5 : w36.cell? ⟨gb101, 5, none⟩ = some (.slice A0_5 l0_5.length c0_5) := (blk_cell BK101.out 5).trans rfl; have hcz37_6 : w36.cell? ⟨gb101, 6, none⟩ = some (.int .i64 a0_6) := (blk_cell BK101.out 6).trans rfl; have hfz37_0 := blk_frozen BK101.out 0; have hfz37_1 := blk_frozen BK101.out 1; have hfz37_2 := blk_frozen BK101.out 2; have hfz37_3 := blk_frozen BK101.out 3; have hfz37_4 := blk_frozen BK101.out 4; have hfz37_5 := blk_frozen BK101.out 5; have hfz37_6 := blk_frozen BK101.out 6) | ((with_reducible refine gate_callee (f := 14) rfl ?_); refine goesL_ (some 26) rfl rfl Try.func14 (by kernel_rfl) rfl #[.pointer (some ⟨b_q105, 0, none⟩), .int .i64 a0_3, .agg #[.int .i64 a0_4, .slice A0_5 l0_5.length c0_5]] rfl (by (try simp only [List.map_toArray, List.map_cons, List.map_nil]); first | done | rfl | (simp only [List.length_drop, List.length_take]; rfl)) ?_; (with_reducible refine (dlog_CheckOrder.calls k b_q105 q105 a0_3 a0_4 _ _ l0_5 t107 _ ?side1 ?side2 ?side3 A13.out).mono ?_); (case side1 => exact GFok.belowT HG_q105.out (by repeat (first | (with_reducible first | exact HB.out | apply below_alloc | apply pw_below_drewN | apply below_drew1 | refine below_set ?_ GE101.out) | exact HB.out))); (case side2 => repeat (first | exact (Kd.C_below HR0_5.out HB.out) | (with_reducible refine Kd.C_alloc ?_ _) | (with_reducible refine Kd.C_drewN ?_ _) | (with_reducible refine Kd.C_drew ?_))); (case side3 => exact HC0_5.out); rintro e w38 ⟨rfl, hb⟩; refine ⟨_, rfl, ?_⟩; have n0_ := Aside0.mk (blk_below (g := gb101) (o := .cells #[.int .i64 a0_0, .int .i64 a0_1, .slice A0_2 l0_2.length c0_2, .int .i64 a0_3, .int .i64 a0_4, .slice A0_5 l0_5.length c0_5, .int .i64 a0_6] 28 (0, 0)) (by (with_reducible repeat (first | refine blk_drewN ?_ _ | refine blk_drew ?_ | refine blk_alloc ?_ _)); exact BK101.out) hb); have n1_ := Aside0.mk (below_step (by repeat (first | (with_reducible first | exact HB.out | apply below_alloc | apply pw_below_drewN | apply below_drew1 | refine below_set ?_ GE101.out) | exact HB.out)) hb); clear BK101; clear HB; have BK101 := n0_; have HB := n1_; clear n0_ n1_; (try clear hb); (try clear hb2); (try clear hk); (try clear hi); have hcz39_0 : w38.cell? ⟨gb101, 0, none⟩ = some (.int .i64 a0_0) := (blk_cell BK101.out 0).trans rfl; have hcz39_1 : w38.cell? ⟨gb101, 1, none⟩ = some (.int .i64 a0_1) := (blk_cell BK101.out 1).trans rfl; have hcz39_2 : w38.cell? ⟨gb101, 2, none⟩ = some (.slice A0_2 l0_2.length c0_2) := (blk_cell BK101.out 2).trans rfl; have hcz39_3 : w38.cell? ⟨gb101, 3, none⟩ = some (.int .i64 a0_3) := (blk_cell BK101.out 3).trans rfl; have hcz39_4 : w38.cell? ⟨gb101, 4, none⟩ = some (.int .i64 a0_4) := (blk_cell BK101.out 4).trans rfl; have hcz39_5 : w38.cell? ⟨gb101, 5, none⟩ = some (.slice A0_5 l0_5.length c0_5) := (blk_cell BK101.out 5).trans rfl; have hcz39_6 : w38.cell? ⟨gb101, 6, none⟩ = some (.int .i64 a0_6) := (blk_cell BK101.out 6).trans rfl; have hfz39_0 := blk_frozen BK101.out 0; have hfz39_1 := blk_frozen BK101.out 1; have hfz39_2 := blk_frozen BK101.out 2; have hfz39_3 := blk_frozen BK101.out 3; have hfz39_4 := blk_frozen BK101.out 4; have hfz39_5 := blk_frozen BK101.out 5; have hfz39_6 := blk_frozen BK101.out 6) | ((with_reducible refine gate_callee (f := 16) rfl ?_); refine goesL_ (some 47) rfl rfl Try.func16 (by kernel_rfl) rfl #[.pointer (some ⟨b_q105, 0, none⟩), .int .i64 a0_3, .int .i64 a0_6] rfl (by (try simp only [List.map_toArray, List.map_cons, List.map_nil]); first | done | rfl | (simp only [List.length_drop, List.length_take]; rfl)) ?_; (with_reducible refine (field_GF_Pow.calls b_q105 q105 a0_3 a0_6 t108 t109 _ ?side1 A31.out).mono ?_); (case side1 => exact GFok.belowT HG_q105.out (by repeat (first | (with_reducible first | exact HB.out | apply below_alloc | apply pw_below_drewN | apply below_drew1 | refine below_set ?_ GE101.out) | exact HB.out))); rintro e w40 ⟨rfl, hb⟩; refine ⟨_, rfl, ?_⟩; have n0_ := Aside0.mk (blk_below (g := gb101) (o := .cells #[.int .i64 a0_0, .int .i64 a0_1, .slice A0_2 l0_2.length c0_2, .int .i64 a0_3, .int .i64 a0_4, .slice A0_5 l0_5.length c0_5, .int .i64 a0_6] 28 (0, 0)) (by (with_reducible repeat (first | refine blk_drewN ?_ _ | refine blk_drew ?_ | refine blk_alloc ?_ _)); exact BK101.out) hb); have n1_ := Aside0.mk (below_step (by repeat (first | (with_reducible first | exact HB.out | apply below_alloc | apply pw_below_drewN | apply below_drew1 | refine below_set ?_ GE101.out) | exact HB.out)) hb); clear BK101; clear HB; have BK101 := n0_; have HB := n1_; clear n0_ n1_; (try clear hb); (try clear hb2); (try clear hk); (try clear hi)))
                go_ret
                exact ⟨by first | rfl | (simp [errW_none, errW_some] <;> rfl) | (simp [*, errW_none, errW_some] <;> rfl), belowZ HBZ.out (by repeat (first | (with_reducible first | exact HB.out | apply below_alloc | apply pw_below_drewN | apply below_drew1 | refine below_set ?_ GE101.out) | exact HB.out))⟩
              · rw [if_neg c32] at H
                have c32b0 : (t109 == 0) = false := beq_eq_false_iff_ne.mpr c32
                have c32b1 : (t109 != 0) = true := bne_iff_ne.mpr c32
                obtain rfl := Option.some.inj H
                go_enter Try.func4, Try.ntmps4
                go_wp2_with (first | ((with_reducible refine gate_dst (N := 1) rfl ?_); refine box_event ?hg (N := 1) ?hd (cs := #[.int .i64 a0_0, .int .i64 a0_1, .slice A0_2 l0_2.length c0_2, .int .i64 a0_3, .int .i64 a0_4, .slice A0_5 l0_5.length c0_5, .int .i64 a0_6]) (t := 28) ?hr ?_; (case hd => rfl); (case hg => rfl); (case hr => first | (go_simp; done) | (go_simp; rfl)); intro gb101 hg w41 hbox hb; have n0_ := Aside0.mk (below_step (by repeat (first | (with_reducible first | exact HB.out | apply below_alloc | apply pw_below_drewN | apply below_drew1) | exact HB.out)) hb); have n1_ := Aside0.mk (hbox); have n2_ := Aside0.mk ((by rw [hg]; exact (below_size (by repeat (first | (with_reducible first | exact HB.out | apply below_alloc | apply pw_below_drewN | apply below_drew1) | exact HB.out))) : w.heap.size ≤ gb101)); have n3_ := Aside0.mk ((by rw [hg]; exact (below_size (by repeat (first | (with_reducible first | exact HB.out | apply below_alloc | apply pw_below_drewN | apply below_drew1) | exact HB.out))) : w.heap.size ≤ gb101)); clear HB; have HB := n0_; have BK101 := n1_; have GW101 := n2_; have GE101 := n3_; clear n0_ n1_ n2_ n3_; clear hb hbox hg; have hcz42_0 : w41.cell? ⟨gb101, 0, none⟩ = some (.int .i64 a0_0) := (blk_cell BK101.out 0).trans rfl; have hcz42_1 : w41.cell? ⟨gb101, 1, none⟩ = some (.int .i64 a0_1) := (blk_cell BK101.out 1).trans rfl; have hcz42_2 : w41.cell? ⟨gb101, 2, none⟩ = some (.slice A0_2 l0_2.length c0_2) := (blk_cell BK101.out 2).trans rfl; have hcz42_3 : w41.cell? ⟨gb101, 3, none⟩ = some (.int .i64 a0_3) := (blk_cell BK101.out 3).trans rfl; have hcz42_4 : w41.cell? ⟨gb101, 4, none⟩ = some (.int .i64 a0_4) := (blk_cell BK101.out 4).trans rfl; have hcz42_5 : w41.cell? ⟨gb101, 5, none⟩ = some (.slice A0_5 l0_5.length c0_5) := (blk_cell BK101.out 5).trans rfl; have hcz42_6 : w41.cell? ⟨gb101, 6, none⟩ = some (.int .i64 a0_6) := (blk_cell BK101.out 6).trans rfl; have hfz42_0 := blk_frozen BK101.out 0; have hfz42_1 := blk_frozen BK101.out 1; have hfz42_2 := blk_frozen BK101.out 2; have hfz42_3 := blk_frozen BK101.out 3; have hfz42_4 := blk_frozen BK101.out 4; have hfz42_5 := blk_frozen BK101.out 5; have hfz42_6 := blk_frozen BK101.out 6) | ((with_reducible refine gate_callee (f := 13) rfl ?_); refine goesL_ (some 11) rfl rfl Try.func13 (by kernel_rfl) rfl #[.agg #[.int .i64 a0_0, .int .i64 a0_1, .slice A0_2 l0_2.length c0_2]] rfl (by (try simp only [List.map_toArray, List.map_cons, List.map_nil]); first | done | rfl | (simp only [List.length_drop, List.length_take]; rfl)) ?_; (with_reducible refine (codewrightlaw08_open.calls a0_0 a0_1 _ _ l0_2 (some q105) false t104 _ ?side1 ?side2 A2.out).mono ?_); (case side1 => repeat (first | exact (Kd.C_below HR0_2.out HB.out) | (with_reducible refine Kd.C_alloc ?_ _) | (with_reducible refine Kd.C_drewN ?_ _) | (with_reducible refine Kd.C_drew ?_))); (case side2 => exact HC0_2.out); rintro e w43 ⟨b_q105, rfl, hb, hgo⟩; refine ⟨_, rfl, ?_⟩; have n0_ := Aside0.mk (blk_below (g := gb101) (o := .cells #[.int .i64 a0_0, .int .i64 a0_1, .slice A0_2 l0_2.length c0_2, .int .i64 a0_3, .int .i64 a0_4, .slice A0_5 l0_5.length c0_5, .int .i64 a0_6] 28 (0, 0)) (by (with_reducible repeat (first | refine blk_drewN ?_ _ | refine blk_drew ?_ | refine blk_alloc ?_ _)); exact BK101.out) hb); have n1_ := Aside0.mk (below_step (by repeat (first | (with_reducible first | exact HB.out | apply below_alloc | apply pw_below_drewN | apply below_drew1 | refine below_set ?_ GE101.out) | exact HB.out)) hb); clear BK101; clear HB; have BK101 := n0_; have HB := n1_; clear n0_ n1_; (try clear hb); (try clear hb2); (try clear hk); (try clear hi); (try simp only [gfW_none, gfW_some]); have HBZ := HB; have HRn_ := Aside0.mk (Kd.C_below HR0_2.out HB.out); clear HR0_2; have HR0_2 := HRn_; clear HRn_; have HRn_ := Aside0.mk (Kd.C_below HR0_5.out HB.out); clear HR0_5; have HR0_5 := HRn_; clear HRn_; clear HB; obtain ⟨wz, rfl⟩ : ∃ z_ : World, z_ = w := ⟨_, rfl⟩; obtain ⟨w, rfl⟩ : ∃ z_ : World, z_ = w43 := ⟨_, rfl⟩; have HB := Aside0.mk (Below.refl w.heap.size w); have HG_q105 := Aside0.mk (hgo : GFok w b_q105 q105); clear hgo) | ((with_reducible refine gate_callee (f := 14) rfl ?_); refine goesL_ (some 19) rfl rfl Try.func14 (by kernel_rfl) rfl #[.pointer (some ⟨b_q105, 0, none⟩), .int .i64 0, .agg #[.int .i64 1, .slice none 0 0]] rfl (by (try simp only [List.map_toArray, List.map_cons, List.map_nil]); first | done | rfl | (simp only [List.length_drop, List.length_take]; rfl)) ?_; (refine (dlog_CheckOrder.calls k b_q105 q105 0 1 _ _ ([] : List Int) t106 _ ?side1 ?side2 ?side3 A11.out).mono ?_); (case side1 => exact GFok.belowT HG_q105.out (by repeat (first | (with_reducible first | exact HB.out | apply below_alloc | apply pw_below_drewN | apply below_drew1 | refine below_set ?_ GE101.out) | exact HB.out))); (case side2 => exact Kd.C_nil _ _); (case side3 => exact Nat.le_refl _); rintro e w44 ⟨rfl, hb⟩; refine ⟨_, rfl, ?_⟩; have n0_ := Aside0.mk (blk_below (g := gb101) (o := .cells #[.int .i64 a0_0, .int .i64 a0_1, .slice A0_2 l0_2.length c0_2, .int .i64 a0_3, .int .i64 a0_4, .slice A0_5 l0_5.length c0_5, .int .i64 a0_6] 28 (0, 0)) (by (with_reducible repeat (first | refine blk_drewN ?_ _ | refine blk_drew ?_ | refine blk_alloc ?_ _)); exact BK101.out) hb); have n1_ := Aside0.mk (below_step (by repeat (first | (with_reducible first | exact HB.out | apply below_alloc | apply pw_below_drewN | apply below_drew1 | refine below_set ?_ GE101.out) | exact HB.out)) hb); clear BK101; clear HB; have BK101 := n0_; have HB := n1_; clear n0_ n1_; (try clear hb); (try clear hb2); (try clear hk); (try clear hi); have hcz45_0 : w44.cell? ⟨gb101, 0, none⟩ = some (.int .i64 a0_0) := (blk_cell BK101.out 0).trans rfl; have hcz45_1 : w44.cell? ⟨gb101, 1, none⟩ = some (.int .i64 a0_1) := (blk_cell BK101.out 1).trans rfl; have hcz45_2 : w44.cell? ⟨gb101, 2, none⟩ = some (.slice A0_2 l0_2.length c0_2) := (blk_cell BK101.out 2).trans rfl; have hcz45_3 : w44.cell? ⟨gb101, 3, none⟩ = some (.int .i64 a0_3) := (blk_cell BK101.out 3).trans rfl; have hcz45_4 : w44.cell? ⟨gb101, 4, none⟩ = some (.int .i64 a0_4) := (blk_cell BK101.out 4).trans rfl; have hcz45_5 : w44.cell? ⟨gb101, 5, none⟩ = some (.slice A0_5 l0_5.length c0_5) := (blk_cell BK101.out 5).trans rfl; have hcz45_6 : w44.cell? ⟨gb101, 6, none⟩ = some (.int .i64 a0_6) := (blk_cell BK101.out 6).trans rfl; have hfz45_0 := blk_frozen BK101.out 0; have hfz45_1 := blk_frozen BK101.out 1; have hfz45_2 := blk_frozen BK101.out 2; have hfz45_3 := blk_frozen BK101.out 3; have hfz45_4 := blk_frozen BK101.out 4; have hfz45_5 := blk_frozen BK101.out 5; have hfz45_6 := blk_frozen BK101.out 6) | ((with_reducible refine gate_callee (f := 14) rfl ?_); refine goesL_ (some 26) rfl rfl Try.func14 (by kernel_rfl) rfl #[.pointer (some ⟨b_q105, 0, none⟩), .int .i64 a0_3, .agg #[.int .i64 a0_4, .slice A0_5 l0_5.length c0_5]] rfl (by (try simp only [List.map_toArray, List.map_cons, List.map_nil]); first | done | rfl | (simp only [List.length_drop, List.length_take]; rfl)) ?_; (with_reducible refine (dlog_CheckOrder.calls k b_q105 q105 a0_3 a0_4 _ _ l0_5 t107 _ ?side1 ?side2 ?side3 A13.out).mono ?_); (case side1 => exact GFok.belowT HG_q105.out (by repeat (first | (with_reducible first | exact HB.out | apply below_alloc | apply pw_below_drewN | apply below_drew1 | refine below_set ?_ GE101.out) | exact HB.out))); (case side2 => repeat (first | exact (Kd.C_below HR0_5.out HB.out) | (with_reducible refine Kd.C_alloc ?_ _) | (with_reducible refine Kd.C_drewN ?_ _) | (with_reducible refine Kd.C_drew ?_))); (case side3 => exact HC0_5.out); rintro e w46 ⟨rfl, hb⟩; refine ⟨_, rfl, ?_⟩; have n0_ := Aside0.mk (blk_below (g := gb101) (o := .cells #[.int .i64 a0_0, .int .i64 a0_1, .slice A0_2 l0_2.length c0_2, .int .i64 a0_3, .int .i64 a0_4, .slice A0_5 l0_5.length c0_5, .int .i64 a0_6] 28 (0, 0)) (by (with_reducible repeat (first | refine blk_drewN ?_ _ | refine blk_drew ?_ | refine blk_alloc ?_ _)); exact BK101.out) hb); have n1_ := Aside0.mk (below_step (by repeat (first | (with_reducible first | exact HB.out | apply below_alloc | apply pw_below_drewN | apply below_drew1 | refine below_set ?_ GE101.out) | exact HB.out)) hb); clear BK101; clear HB; have BK101 := n0_; have HB := n1_; clear n0_ n1_; (try clear hb); (try clear hb2); (try clear hk); (try clear hi); have hcz47_0 : w46.cell? ⟨gb101, 0, none⟩ = some (.int .i64 a0_0) := (blk_cell BK101.out 0).trans rfl; have hcz47_1 : w46.cell? ⟨gb101, 1, none⟩ = some (.int .i64 a0_1) := (blk_cell BK101.out 1).trans rfl; have hcz47_2 : w46.cell? ⟨gb101, 2, none⟩ = some (.slice A0_2 l0_2.length c0_2) := (blk_cell BK101.out 2).trans rfl; have hcz47_3 : w46.cell? ⟨gb101, 3, none⟩ = some (.int .i64 a0_3) := (blk_cell BK101.out 3).trans rfl; have hcz47_4 : w46.cell? ⟨gb101, 4, none⟩ = some (.int .i64 a0_4) := (blk_cell BK101.out 4).trans rfl; have hcz47_5 : w46.cell? ⟨gb101, 5, none⟩ = some (.slice A0_5 l0_5.length c0_5) := (blk_cell BK101.out 5).trans rfl; have hcz47_6 : w46.cell? ⟨gb101, 6, none⟩ = some (.int .i64 a0_6) := (blk_cell BK101.out 6).trans rfl; have hfz47_0 := blk_frozen BK101.out 0; have hfz47_1 := blk_frozen BK101.out 1; have hfz47_2 := blk_frozen BK101.out 2; have hfz47_3 := blk_frozen BK101.out 3; have hfz47_4 := blk_frozen BK101.out 4; have hfz47_5 := blk_frozen BK101.out 5; have hfz47_6 := blk_frozen BK101.out 6) | ((with_reducible refine gate_callee (f := 16) rfl ?_); refine goesL_ (some 47) rfl rfl Try.func16 (by kernel_rfl) rfl #[.pointer (some ⟨b_q105, 0, none⟩), .int .i64 a0_3, .int .i64 a0_6] rfl (by (try simp only [List.map_toArray, List.map_cons, List.map_nil]); first | done | rfl | (simp only [List.length_drop, List.length_take]; rfl)) ?_; (with_reducible refine (field_GF_Pow.calls b_q105 q105 a0_3 a0_6 t108 t109 _ ?side1 A31.out).mono ?_); (case side1 => exact GFok.belowT HG_q105.out (by repeat (first | (with_reducible first | exact HB.out | apply below_alloc | apply pw_below_drewN | apply below_drew1 | refine below_set ?_ GE101.out) | exact HB.out))); rintro e w48 ⟨rfl, hb⟩; refine ⟨_, rfl, ?_⟩; have n0_ := Aside0.mk (blk_below (g := gb101) (o := .cells #[.int .i64 a0_0, .int .i64 a0_1, .slice A0_2 l0_2.length c0_2, .int .i64 a0_3, .int .i64 a0_4, .slice A0_5 l0_5.length c0_5, .int .i64 a0_6] 28 (0, 0)) (by (with_reducible repeat (first | refine blk_drewN ?_ _ | refine blk_drew ?_ | refine blk_alloc ?_ _)); exact BK101.out) hb); have n1_ := Aside0.mk (below_step (by repeat (first | (with_reducible first | exact HB.out | apply below_alloc | apply pw_below_drewN | apply below_drew1 | refine below_set ?_ GE101.out) | exact HB.out)) hb); clear BK101; clear HB; have BK101 := n0_; have HB := n1_; clear n0_ n1_; (try clear hb); (try clear hb2); (try clear hk); (try clear hi)))
                go_ret
                exact ⟨by first | rfl | (simp [errW_none, errW_some] <;> rfl) | (simp [*, errW_none, errW_some] <;> rfl), belowZ HBZ.out (by repeat (first | (with_reducible first | exact HB.out | apply below_alloc | apply pw_below_drewN | apply below_drew1 | refine below_set ?_ GE101.out) | exact HB.out))⟩
        · rw [if_neg c14] at H
          have c14b0 : (t107 == 0) = false := beq_eq_false_iff_ne.mpr c14
          have c14b1 : (t107 != 0) = true := bne_iff_ne.mpr c14
          obtain rfl := Option.some.inj H
          go_enter Try.func4, Try.ntmps4
          go_wp2_with (first | ((with_reducible refine gate_dst (N := 1) rfl ?_); refine box_event ?hg (N := 1) ?hd (cs := #[.int .i64 a0_0, .int .i64 a0_1, .slice A0_2 l0_2.length c0_2, .int .i64 a0_3, .int .i64 a0_4, .slice A0_5 l0_5.length c0_5, .int .i64 a0_6]) (t := 28) ?hr ?_; (case hd => rfl); (case hg => rfl); (case hr => first | (go_simp; done) | (go_simp; rfl)); intro gb101 hg w49 hbox hb; have n0_ := Aside0.mk (below_step (by repeat (first | (with_reducible first | exact HB.out | apply below_alloc | apply pw_below_drewN | apply below_drew1) | exact HB.out)) hb); have n1_ := Aside0.mk (hbox); have n2_ := Aside0.mk ((by rw [hg]; exact (below_size (by repeat (first | (with_reducible first | exact HB.out | apply below_alloc | apply pw_below_drewN | apply below_drew1) | exact HB.out))) : w.heap.size ≤ gb101)); have n3_ := Aside0.mk ((by rw [hg]; exact (below_size (by repeat (first | (with_reducible first | exact HB.out | apply below_alloc | apply pw_below_drewN | apply below_drew1) | exact HB.out))) : w.heap.size ≤ gb101)); clear HB; have HB := n0_; have BK101 := n1_; have GW101 := n2_; have GE101 := n3_; clear n0_ n1_ n2_ n3_; clear hb hbox hg; have hcz50_0 : w49.cell? ⟨gb101, 0, none⟩ = some (.int .i64 a0_0) := (blk_cell BK101.out 0).trans rfl; have hcz50_1 : w49.cell? ⟨gb101, 1, none⟩ = some (.int .i64 a0_1) := (blk_cell BK101.out 1).trans rfl; have hcz50_2 : w49.cell? ⟨gb101, 2, none⟩ = some (.slice A0_2 l0_2.length c0_2) := (blk_cell BK101.out 2).trans rfl; have hcz50_3 : w49.cell? ⟨gb101, 3, none⟩ = some (.int .i64 a0_3) := (blk_cell BK101.out 3).trans rfl; have hcz50_4 : w49.cell? ⟨gb101, 4, none⟩ = some (.int .i64 a0_4) := (blk_cell BK101.out 4).trans rfl; have hcz50_5 : w49.cell? ⟨gb101, 5, none⟩ = some (.slice A0_5 l0_5.length c0_5) := (blk_cell BK101.out 5).trans rfl; have hcz50_6 : w49.cell? ⟨gb101, 6, none⟩ = some (.int .i64 a0_6) := (blk_cell BK101.out 6).trans rfl; have hfz50_0 := blk_frozen BK101.out 0; have hfz50_1 := blk_frozen BK101.out 1; have hfz50_2 := blk_frozen BK101.out 2; have hfz50_3 := blk_frozen BK101.out 3; have hfz50_4 := blk_frozen BK101.out 4; have hfz50_5 := blk_frozen BK101.out 5; have hfz50_6 := blk_frozen BK101.out 6) | ((with_reducible refine gate_callee (f := 13) rfl ?_); refine goesL_ (some 11) rfl rfl Try.func13 (by kernel_rfl) rfl #[.agg #[.int .i64 a0_0, .int .i64 a0_1, .slice A0_2 l0_2.length c0_2]] rfl (by (try simp only [List.map_toArray, List.map_cons, List.map_nil]); first | done | rfl | (simp only [List.length_drop, List.length_take]; rfl)) ?_; (with_reducible refine (codewrightlaw08_open.calls a0_0 a0_1 _ _ l0_2 (some q105) false t104 _ ?side1 ?side2 A2.out).mono ?_); (case side1 => repeat (first | exact (Kd.C_below HR0_2.out HB.out) | (with_reducible refine Kd.C_alloc ?_ _) | (with_reducible refine Kd.C_drewN ?_ _) | (with_reducible refine Kd.C_drew ?_))); (case side2 => exact HC0_2.out); rintro e w51 ⟨b_q105, rfl, hb, hgo⟩; refine ⟨_, rfl, ?_⟩; have n0_ := Aside0.mk (blk_below (g := gb101) (o := .cells #[.int .i64 a0_0, .int .i64 a0_1, .slice A0_2 l0_2.length c0_2, .int .i64 a0_3, .int .i64 a0_4, .slice A0_5 l0_5.length c0_5, .int .i64 a0_6] 28 (0, 0)) (by (with_reducible repeat (first | refine blk_drewN ?_ _ | refine blk_drew ?_ | refine blk_alloc ?_ _)); exact BK101.out) hb); have n1_ := Aside0.mk (below_step (by repeat (first | (with_reducible first | exact HB.out | apply below_alloc | apply pw_below_drewN | apply below_drew1 | refine below_set ?_ GE101.out) | exact HB.out)) hb); clear BK101; clear HB; have BK101 := n0_; have HB := n1_; clear n0_ n1_; (try clear hb); (try clear hb2); (try clear hk); (try clear hi); (try simp only [gfW_none, gfW_some]); have HBZ := HB; have HRn_ := Aside0.mk (Kd.C_below HR0_2.out HB.out); clear HR0_2; have HR0_2 := HRn_; clear HRn_; have HRn_ := Aside0.mk (Kd.C_below HR0_5.out HB.out); clear HR0_5; have HR0_5 := HRn_; clear HRn_; clear HB; obtain ⟨wz, rfl⟩ : ∃ z_ : World, z_ = w := ⟨_, rfl⟩; obtain ⟨w, rfl⟩ : ∃ z_ : World, z_ = w51 := ⟨_, rfl⟩; have HB := Aside0.mk (Below.refl w.heap.size w); have HG_q105 := Aside0.mk (hgo : GFok w b_q105 q105); clear hgo) | ((with_reducible refine gate_callee (f := 14) rfl ?_); refine goesL_ (some 19) rfl rfl Try.func14 (by kernel_rfl) rfl #[.pointer (some ⟨b_q105, 0, none⟩), .int .i64 0, .agg #[.int .i64 1, .slice none 0 0]] rfl (by (try simp only [List.map_toArray, List.map_cons, List.map_nil]); first | done | rfl | (simp only [List.length_drop, List.length_take]; rfl)) ?_; (refine (dlog_CheckOrder.calls k b_q105 q105 0 1 _ _ ([] : List Int) t106 _ ?side1 ?side2 ?side3 A11.out).mono ?_); (case side1 => exact GFok.belowT HG_q105.out (by repeat (first | (with_reducible first | exact HB.out | apply below_alloc | apply pw_below_drewN | apply below_drew1 | refine below_set ?_ GE101.out) | exact HB.out))); (case side2 => exact Kd.C_nil _ _); (case side3 => exact Nat.le_refl _); rintro e w52 ⟨rfl, hb⟩; refine ⟨_, rfl, ?_⟩; have n0_ := Aside0.mk (blk_below (g := gb101) (o := .cells #[.int .i64 a0_0, .int .i64 a0_1, .slice A0_2 l0_2.length c0_2, .int .i64 a0_3, .int .i64 a0_4, .slice A0_5 l0_5.length c0_5, .int .i64 a0_6] 28 (0, 0)) (by (with_reducible repeat (first | refine blk_drewN ?_ _ | refine blk_drew ?_ | refine blk_alloc ?_ _)); exact BK101.out) hb); have n1_ := Aside0.mk (below_step (by repeat (first | (with_reducible first | exact HB.out | apply below_alloc | apply pw_below_drewN | apply below_drew1 | refine below_set ?_ GE101.out) | exact HB.out)) hb); clear BK101; clear HB; have BK101 := n0_; have HB := n1_; clear n0_ n1_; (try clear hb); (try clear hb2); (try clear hk); (try clear hi); have hcz53_0 : w52.cell? ⟨gb101, 0, none⟩ = some (.int .i64 a0_0) := (blk_cell BK101.out 0).trans rfl; have hcz53_1 : w52.cell? ⟨gb101, 1, none⟩ = some (.int .i64 a0_1) := (blk_cell BK101.out 1).trans rfl; have hcz53_2 : w52.cell? ⟨gb101, 2, none⟩ = some (.slice A0_2 l0_2.length c0_2) := (blk_cell BK101.out 2).trans rfl; have hcz53_3 : w52.cell? ⟨gb101, 3, none⟩ = some (.int .i64 a0_3) := (blk_cell BK101.out 3).trans rfl; have hcz53_4 : w52.cell? ⟨gb101, 4, none⟩ = some (.int .i64 a0_4) := (blk_cell BK101.out 4).trans rfl; have hcz53_5 : w52.cell? ⟨gb101, 5, none⟩ = some (.slice A0_5 l0_5.length c0_5) := (blk_cell BK101.out 5).trans rfl; have hcz53_6 : w52.cell? ⟨gb101, 6, none⟩ = some (.int .i64 a0_6) := (blk_cell BK101.out 6).trans rfl; have hfz53_0 := blk_frozen BK101.out 0; have hfz53_1 := blk_frozen BK101.out 1; have hfz53_2 := blk_frozen BK101.out 2; have hfz53_3 := blk_frozen BK101.out 3; have hfz53_4 := blk_frozen BK101.out 4; have hfz53_5 := blk_frozen BK101.out 5; have hfz53_6 := blk_frozen BK101.out 6) | ((with_reducible refine gate_callee (f := 14) rfl ?_); refine goesL_ (some 26) rfl rfl Try.func14 (by kernel_rfl) rfl #[.pointer (some ⟨b_q105, 0, none⟩), .int .i64 a0_3, .agg #[.int .i64 a0_4, .slice A0_5 l0_5.length c0_5]] rfl (by (try simp only [List.map_toArray, List.map_cons, List.map_nil]); first | done | rfl | (simp only [List.length_drop, List.length_take]; rfl)) ?_; (with_reducible refine (dlog_CheckOrder.calls k b_q105 q105 a0_3 a0_4 _ _ l0_5 t107 _ ?side1 ?side2 ?side3 A13.out).mono ?_); (case side1 => exact GFok.belowT HG_q105.out (by repeat (first | (with_reducible first | exact HB.out | apply below_alloc | apply pw_below_drewN | apply below_drew1 | refine below_set ?_ GE101.out) | exact HB.out))); (case side2 => repeat (first | exact (Kd.C_below HR0_5.out HB.out) | (with_reducible refine Kd.C_alloc ?_ _) | (with_reducible refine Kd.C_drewN ?_ _) | (with_reducible refine Kd.C_drew ?_))); (case side3 => exact HC0_5.out); rintro e w54 ⟨rfl, hb⟩; refine ⟨_, rfl, ?_⟩; have n0_ := Aside0.mk (blk_below (g := gb101) (o := .cells #[.int .i64 a0_0, .int .i64 a0_1, .slice A0_2 l0_2.length c0_2, .int .i64 a0_3, .int .i64 a0_4, .slice A0_5 l0_5.length c0_5, .int .i64 a0_6] 28 (0, 0)) (by (with_reducible repeat (first | refine blk_drewN ?_ _ | refine blk_drew ?_ | refine blk_alloc ?_ _)); exact BK101.out) hb); have n1_ := Aside0.mk (below_step (by repeat (first | (with_reducible first | exact HB.out | apply below_alloc | apply pw_below_drewN | apply below_drew1 | refine below_set ?_ GE101.out) | exact HB.out)) hb); clear BK101; clear HB; have BK101 := n0_; have HB := n1_; clear n0_ n1_; (try clear hb); (try clear hb2); (try clear hk); (try clear hi)))
          go_ret
          exact ⟨by first | rfl | (simp [errW_none, errW_some] <;> rfl) | (simp [*, errW_none, errW_some] <;> rfl), belowZ HBZ.out (by repeat (first | (with_reducible first | exact HB.out | apply below_alloc | apply pw_below_drewN | apply below_drew1 | refine below_set ?_ GE101.out) | exact HB.out))⟩
      · rw [if_neg c12] at H
        have c12b0 : (t106 == 13) = false := beq_eq_false_iff_ne.mpr c12
        have c12b1 : (t106 != 13) = true := bne_iff_ne.mpr c12
        obtain rfl := Option.some.inj H
        go_enter Try.func4, Try.ntmps4
        go_wp2_with (first | ((with_reducible refine gate_dst (N := 1) rfl ?_); refine box_event ?hg (N := 1) ?hd (cs := #[.int .i64 a0_0, .int .i64 a0_1, .slice A0_2 l0_2.length c0_2, .int .i64 a0_3, .int .i64 a0_4, .slice A0_5 l0_5.length c0_5, .int .i64 a0_6]) (t := 28) ?hr ?_; (case hd => rfl); (case hg => rfl); (case hr => first | (go_simp; done) | (go_simp; rfl)); intro gb101 hg w55 hbox hb; have n0_ := Aside0.mk (below_step (by repeat (first | (with_reducible first | exact HB.out | apply below_alloc | apply pw_below_drewN | apply below_drew1) | exact HB.out)) hb); have n1_ := Aside0.mk (hbox); have n2_ := Aside0.mk ((by rw [hg]; exact (below_size (by repeat (first | (with_reducible first | exact HB.out | apply below_alloc | apply pw_below_drewN | apply below_drew1) | exact HB.out))) : w.heap.size ≤ gb101)); have n3_ := Aside0.mk ((by rw [hg]; exact (below_size (by repeat (first | (with_reducible first | exact HB.out | apply below_alloc | apply pw_below_drewN | apply below_drew1) | exact HB.out))) : w.heap.size ≤ gb101)); clear HB; have HB := n0_; have BK101 := n1_; have GW101 := n2_; have GE101 := n3_; clear n0_ n1_ n2_ n3_; clear hb hbox hg; have hcz56_0 : w55.cell? ⟨gb101, 0, none⟩ = some (.int .i64 a0_0) := (blk_cell BK101.out 0).trans rfl; have hcz56_1 : w55.cell? ⟨gb101, 1, none⟩ = some (.int .i64 a0_1) := (blk_cell BK101.out 1).trans rfl; have hcz56_2 : w55.cell? ⟨gb101, 2, none⟩ = some (.slice A0_2 l0_2.length c0_2) := (blk_cell BK101.out 2).trans rfl; have hcz56_3 : w55.cell? ⟨gb101, 3, none⟩ = some (.int .i64 a0_3) := (blk_cell BK101.out 3).trans rfl; have hcz56_4 : w55.cell? ⟨gb101, 4, none⟩ = some (.int .i64 a0_4) := (blk_cell BK101.out 4).trans rfl; have hcz56_5 : w55.cell? ⟨gb101, 5, none⟩ = some (.slice A0_5 l0_5.length c0_5) := (blk_cell BK101.out 5).trans rfl; have hcz56_6 : w55.cell? ⟨gb101, 6, none⟩ = some (.int .i64 a0_6) := (blk_cell BK101.out 6).trans rfl; have hfz56_0 := blk_frozen BK101.out 0; have hfz56_1 := blk_frozen BK101.out 1; have hfz56_2 := blk_frozen BK101.out 2; have hfz56_3 := blk_frozen BK101.out 3; have hfz56_4 := blk_frozen BK101.out 4; have hfz56_5 := blk_frozen BK101.out 5; have hfz56_6 := blk_frozen BK101.out 6) | ((with_reducible refine gate_callee (f := 13) rfl ?_); refine goesL_ (some 11) rfl rfl Try.func13 (by kernel_rfl) rfl #[.agg #[.int .i64 a0_0, .int .i64 a0_1, .slice A0_2 l0_2.length c0_2]] rfl (by (try simp only [List.map_toArray, List.map_cons, List.map_nil]); first | done | rfl | (simp only [List.length_drop, List.length_take]; rfl)) ?_; (with_reducible refine (codewrightlaw08_open.calls a0_0 a0_1 _ _ l0_2 (some q105) false t104 _ ?side1 ?side2 A2.out).mono ?_); (case side1 => repeat (first | exact (Kd.C_below HR0_2.out HB.out) | (with_reducible refine Kd.C_alloc ?_ _) | (with_reducible refine Kd.C_drewN ?_ _) | (with_reducible refine Kd.C_drew ?_))); (case side2 => exact HC0_2.out); rintro e w57 ⟨b_q105, rfl, hb, hgo⟩; refine ⟨_, rfl, ?_⟩; have n0_ := Aside0.mk (blk_below (g := gb101) (o := .cells #[.int .i64 a0_0, .int .i64 a0_1, .slice A0_2 l0_2.length c0_2, .int .i64 a0_3, .int .i64 a0_4, .slice A0_5 l0_5.length c0_5, .int .i64 a0_6] 28 (0, 0)) (by (with_reducible repeat (first | refine blk_drewN ?_ _ | refine blk_drew ?_ | refine blk_alloc ?_ _)); exact BK101.out) hb); have n1_ := Aside0.mk (below_step (by repeat (first | (with_reducible first | exact HB.out | apply below_alloc | apply pw_below_drewN | apply below_drew1 | refine below_set ?_ GE101.out) | exact HB.out)) hb); clear BK101; clear HB; have BK101 := n0_; have HB := n1_; clear n0_ n1_; (try clear hb); (try clear hb2); (try clear hk); (try clear hi); (try simp only [gfW_none, gfW_some]); have HBZ := HB; have HRn_ := Aside0.mk (Kd.C_below HR0_2.out HB.out); clear HR0_2; have HR0_2 := HRn_; clear HRn_; have HRn_ := Aside0.mk (Kd.C_below HR0_5.out HB.out); clear HR0_5; have HR0_5 := HRn_; clear HRn_; clear HB; obtain ⟨wz, rfl⟩ : ∃ z_ : World, z_ = w := ⟨_, rfl⟩; obtain ⟨w, rfl⟩ : ∃ z_ : World, z_ = w57 := ⟨_, rfl⟩; have HB := Aside0.mk (Below.refl w.heap.size w); have HG_q105 := Aside0.mk (hgo : GFok w b_q105 q105); clear hgo) | ((with_reducible refine gate_callee (f := 14) rfl ?_); refine goesL_ (some 19) rfl rfl Try.func14 (by kernel_rfl) rfl #[.pointer (some ⟨b_q105, 0, none⟩), .int .i64 0, .agg #[.int .i64 1, .slice none 0 0]] rfl (by (try simp only [List.map_toArray, List.map_cons, List.map_nil]); first | done | rfl | (simp only [List.length_drop, List.length_take]; rfl)) ?_; (refine (dlog_CheckOrder.calls k b_q105 q105 0 1 _ _ ([] : List Int) t106 _ ?side1 ?side2 ?side3 A11.out).mono ?_); (case side1 => exact GFok.belowT HG_q105.out (by repeat (first | (with_reducible first | exact HB.out | apply below_alloc | apply pw_below_drewN | apply below_drew1 | refine below_set ?_ GE101.out) | exact HB.out))); (case side2 => exact Kd.C_nil _ _); (case side3 => exact Nat.le_refl _); rintro e w58 ⟨rfl, hb⟩; refine ⟨_, rfl, ?_⟩; have n0_ := Aside0.mk (blk_below (g := gb101) (o := .cells #[.int .i64 a0_0, .int .i64 a0_1, .slice A0_2 l0_2.length c0_2, .int .i64 a0_3, .int .i64 a0_4, .slice A0_5 l0_5.length c0_5, .int .i64 a0_6] 28 (0, 0)) (by (with_reducible repeat (first | refine blk_drewN ?_ _ | refine blk_drew ?_ | refine blk_alloc ?_ _)); exact BK101.out) hb); have n1_ := Aside0.mk (below_step (by repeat (first | (with_reducible first | exact HB.out | apply below_alloc | apply pw_below_drewN | apply below_drew1 | refine below_set ?_ GE101.out) | exact HB.out)) hb); clear BK101; clear HB; have BK101 := n0_; have HB := n1_; clear n0_ n1_; (try clear hb); (try clear hb2); (try clear hk); (try clear hi)))
        go_ret
        exact ⟨by first | rfl | (simp [errW_none, errW_some] <;> rfl) | (simp [*, errW_none, errW_some] <;> rfl), belowZ HBZ.out (by repeat (first | (with_reducible first | exact HB.out | apply below_alloc | apply pw_below_drewN | apply below_drew1 | refine below_set ?_ GE101.out) | exact HB.out))⟩
end
end Go.Proofs.Ytbohbfggmnjpdaa.P
end
-- D7
section
namespace Go.Proofs.Ytbohbfggmnjpdaa.Pl
open Go.RowKit Go.Proofs.Ytbohbfggmnjpdaa.P Go.Proofs.Ytbohbfggmnjpdaa.Hand Go.Proofs.YtbohbfggmnjpdaaW.PrintWords
theorem Ev.uniq {α : Type} {g : Nat → Option α} {a b : α} (h : Ev g a) (k : Ev g b) : a = b := by
  obtain ⟨K, h⟩ := h
  obtain ⟨L, k⟩ := k
  have h1 := h (max K L) (by omega)
  rw [k (max K L) (by omega)] at h1
  exact (Option.some.inj h1).symm
/-- the field that P, M and Mod describe -/
def Is (G : GFv) (P M : Int) (mod : List Int) : Prop := (G.F.p : Int) = P ∧ (G.F.m : Int) = M ∧ G.mod = mod
/-- New and Check agree -/
theorem new_check (P M : Int) (mod : List Int) (hP : P < 9223372036854775808) :
    (field_New.f P M mod = some (none, 1) ∧ Ev (fun k => codewrightref04_Check.f k P M mod) 1) ∨
    (∃ G : GFv, Is G P M mod ∧ field_New.f P M mod = some (some G, 0) ∧ Ev (fun k => codewrightref04_Check.f k P M mod) 0) := by
  rcases shape_check P M mod hP with ⟨_, h1, h2⟩ | ⟨F, hF, rfl, rfl, h1, h2⟩
  · refine Or.inl ⟨?_, h2⟩
    unfold field_New.f
    rw [if_pos h1]
  · have n1 : ¬ Ev (fun k => field_shape.f k (F.p : Int) (F.m : Int) mod) false := fun h => by
      have := Ev.uniq h h1
      cases this
    have ho := order_ev (F.p : Int) (F.m : Int)
    rw [fits_ord hF] at ho
    by_cases hd : Cw.Dom (Cw.El F)
    · rw [if_pos hd] at h2
      have : Cw.Irr F := ⟨hd⟩
      obtain ⟨G, e1, e2, hg⟩ := generator_field hF
      have hex : ∃ G : GFv, (G.F.p : Int) = (F.p : Int) ∧ (G.F.m : Int) = (F.m : Int) ∧ G.mod = mod ∧ Ev (fun k => field_shape.f k (F.p : Int) (F.m : Int) mod) true ∧ Ev (fun k => field_order.f k (F.p : Int) (F.m : Int)) (G.q : Int) ∧ Ev (fun k => field_generator.f k (F.p : Int) (F.m : Int) mod (G.q : Int)) G.exp := by
        subst e1
        exact ⟨G, rfl, rfl, e2, h1, ho, hg⟩
      have n2 : ¬ ∃ q, Ev (fun k => field_shape.f k (F.p : Int) (F.m : Int) mod) true ∧ Ev (fun k => field_order.f k (F.p : Int) (F.m : Int)) q ∧ Ev (fun k => field_generator.f k (F.p : Int) (F.m : Int) mod q) [] := by
        rintro ⟨q, _, hq, hg'⟩
        obtain rfl := Ev.uniq hq ho
        have := Ev.uniq hg' hg
        have h9 := congrArg List.length this
        rw [G.exp_length] at h9
        have := G.q_ge
        rw [List.length_nil] at h9
        omega
      refine Or.inr ⟨Classical.choose hex, ?_, ?_, h2⟩
      · obtain ⟨a, b, c, _⟩ := Classical.choose_spec hex
        exact ⟨a, b, c⟩
      · unfold field_New.f
        rw [if_neg n1, if_neg n2, dif_pos hex]
    · rw [if_neg hd] at h2
      refine Or.inl ⟨?_, h2⟩
      unfold field_New.f
      rw [if_neg n1, if_pos ⟨_, h1, ho, generator_none hF hd⟩]
end Go.Proofs.Ytbohbfggmnjpdaa.Pl
end
-- Q2
section
namespace Go.Proofs.Ytbohbfggmnjpdaa.Pl
open Go.RowKit Go.Proofs.Ytbohbfggmnjpdaa.P Go.Proofs.Ytbohbfggmnjpdaa.Hand Go.Proofs.YtbohbfggmnjpdaaW.PrintWords
theorem list_ext_getD {a b : List Int} (hl : a.length = b.length) (h : ∀ t, t < b.length → a.getD t 0 = b.getD t 0) : a = b := by
  apply List.ext_getElem? 
  intro i
  by_cases hi : i < b.length
  · have := h i hi
    rw [List.getD_eq_getElem?_getD, List.getD_eq_getElem?_getD, List.getElem?_eq_getElem hi, List.getElem?_eq_getElem (by omega)] at this
    rw [List.getElem?_eq_getElem hi, List.getElem?_eq_getElem (by omega)]
    exact congrArg some this
  · rw [List.getElem?_eq_none (by omega), List.getElem?_eq_none (by omega)]
theorem equal_loop (a b : List Int) (hl : a.length = b.length) (hb : b.length ≤ 65536) : ∀ e i, i + e = b.length → (∀ t, t < i → a.getD t 0 = b.getD t 0) →
    Ev (fun k => slices_Equal_int_int.l0 k a b (a.length : Int) (i : Int)) (decide (a = b)) ∧ (∀ O O' : Int, Ev (fun k => codewrightref08_Same.l0 k (i : Int) O a O' b) (decide (a = b))) := by
  intro e
  induction e with
  | zero =>
    intro i hi h
    rw [decide_eq_true (list_ext_getD hl (fun t ht => h t (by omega)))]
    constructor
    · refine Ev.step (f := fun _ => some _) (fun k => ?_) (Ev.now _)
      simp only [slices_Equal_int_int.l0]
      rw [if_neg (by omega)]
    · intro O O'
      refine Ev.step (f := fun _ => some _) (fun k => ?_) (Ev.now _)
      simp only [codewrightref08_Same.l0]
      rw [if_neg (by omega)]
  | succ e ih =>
    intro i hi h
    have c1 : (i : Int) < (a.length : Int) := by omega
    have c2 : (0 : Int) ≤ (i : Int) := by omega
    have c3 : (i : Int) < (b.length : Int) := by omega
    have hi1 : wrap64 ((i : Int) + 1) = ((i + 1 : Nat) : Int) := by rw [w64 (by omega) (by omega)]; rfl
    by_cases hab : rd a (i : Int) = rd b (i : Int)
    · obtain ⟨h1, h2⟩ := ih (i + 1) (by omega) (fun t ht => by
        by_cases hti : t = i
        · rw [hti]; unfold rd at hab; rw [Int.toNat_natCast] at hab; exact hab
        · exact h t (by omega))
      constructor
      · refine Ev.step (fun k => ?_) h1
        simp only [slices_Equal_int_int.l0]
        rw [if_pos c1, if_pos c2, if_pos c1, if_pos c3, if_pos hab, hi1]
      · intro O O'
        refine Ev.step (fun k => ?_) (h2 O O')
        simp only [codewrightref08_Same.l0]
        rw [if_pos c1, if_pos c2, if_pos c3, if_pos hab, hi1]
    · rw [decide_eq_false (fun e1 => hab (by rw [e1]))]
      constructor
      · refine Ev.step (f := fun _ => some _) (fun k => ?_) (Ev.now _)
        simp only [slices_Equal_int_int.l0]
        rw [if_pos c1, if_pos c2, if_pos c1, if_pos c3, if_neg hab]
      · intro O O'
        refine Ev.step (f := fun _ => some _) (fun k => ?_) (Ev.now _)
        simp only [codewrightref08_Same.l0]
        rw [if_pos c1, if_pos c2, if_pos c3, if_neg hab]
theorem equal_ev (a b : List Int) (hb : b.length ≤ 65536) : Ev (fun k => slices_Equal_int_int.f k a b) (decide (a = b)) := by
  by_cases hl : a.length = b.length
  · refine Ev.congr (fun k => ?_) (equal_loop a b hl hb b.length 0 (by omega) (fun t ht => by omega)).1
    unfold slices_Equal_int_int.f
    rw [if_pos (by omega)]
    rfl
  · rw [decide_eq_false (fun e => hl (by rw [e]))]
    refine Ev.congr (fun k => ?_) (Ev.now _)
    unfold slices_Equal_int_int.f
    rw [if_neg (by omega)]
theorem ord_of_primes {K : Type} [Cw.GF K] {x : K} {n : Nat} (hn : 0 < n) (h1 : Cw.pw x n = 1) (h : ∀ r, Cw.Prm r → r ∣ n → Cw.pw x (n / r) ≠ 1) : Cw.IsOrd x n := by
  have hx : x ≠ 0 := by
    rintro rfl
    rw [Cw.zero_pw hn] at h1
    exact Cw.GF.one_ne h1.symm
  obtain ⟨o, ho⟩ := Cw.ord_ex hx
  obtain ⟨c, rfl⟩ := (ho.2 n).1 h1
  by_cases hc : c = 1
  · subst hc; rw [Nat.mul_one]; exact ho
  · have hc0 : c ≠ 0 := by rintro rfl; omega
    obtain ⟨r, hr, d, rfl⟩ := Cw.prm_factor c (by omega)
    exfalso
    refine h r hr ⟨o * d, by rw [Nat.mul_left_comm]⟩ ((ho.2 _).2 ?_)
    rw [show o * (r * d) = r * (o * d) from Nat.mul_left_comm o r d, Nat.mul_div_cancel_left _ (by have := hr.1; omega)]
    exact Nat.dvd_mul_right _ _
/-- the proof is the true one -/
def Good (G : GFv) (X O : Int) (Pl : List Int) : Prop := ∃ (o : Nat) (l : List Nat), O = (o : Int) ∧ Cw.IsOrd (G.el X) o ∧ IsPrl o l ∧ Pl = ints l
theorem ord_lt (G : GFv) {x : Cw.El G.F} {o : Nat} (h : Cw.IsOrd x o) : o ≤ G.q - 1 :=
  Nat.le_of_dvd (by have := G.q_ge; have : Cw.qq (Cw.El G.F) = G.q := rfl; omega) h.dvd
theorem prl_len {n : Nat} {l : List Nat} (h : IsPrl n l) (hn : 1 ≤ n) : l.length ≤ n := by
  have hnd : l.Nodup := h.1.imp (fun h => Nat.ne_of_lt h)
  have := Cw.nodup_len l (List.range (n + 1)) hnd (fun x hx => List.mem_range.2 (by have := Nat.le_of_dvd hn ((h.2 x).1 hx).2; omega))
  rw [List.length_range] at this
  have h0 := Cw.nodup_len (0 :: l) (List.range (n + 1)) (by
    rw [List.nodup_cons]
    refine ⟨fun hz => ?_, hnd⟩
    have := ((h.2 0).1 hz).1.1
    omega) (fun x hx => by
    rcases List.mem_cons.1 hx with hx | hx
    · rw [hx]; exact List.mem_range.2 (by omega)
    · exact List.mem_range.2 (by have := Nat.le_of_dvd hn ((h.2 x).1 hx).2; omega))
  rw [List.length_range, List.length_cons] at h0
  omega
open Classical in
theorem check_loop (G : GFv) (X : Int) (o : Nat) (l : List Nat) (ho : 1 ≤ o) (hoq : o ≤ 255) (hl : IsPrl o l) (hp : Cw.pw (G.el X) o = 1) : ∀ e i, i + e = l.length → (∀ t, t < i → Cw.pw (G.el X) (o / l.getD t 0) ≠ 1) →
    Ev (fun k => dlog_CheckOrder.l0 k G X (ints l) ((ints l).length : Int) (i : Int) (o : Int) (ints l)) (if Good G X (o : Int) (ints l) then 0 else 13) := by
  intro e
  have hlen := prl_len hl ho
  have hil : ((ints l).length : Int) = (l.length : Int) := by rw [ints_length]
  induction e with
  | zero =>
    intro i hi h
    have hg : Good G X (o : Int) (ints l) := ⟨o, l, rfl, ord_of_primes (by omega) hp (fun r hr hro => by
      have hm := (hl.2 r).2 ⟨hr, hro⟩
      obtain ⟨t, ht, e⟩ := List.getElem_of_mem hm
      have := h t (by omega)
      rw [List.getD_eq_getElem?_getD, List.getElem?_eq_getElem ht] at this
      rw [← e]
      exact this), hl, rfl⟩
    rw [if_pos hg]
    refine Ev.step (f := fun _ => some _) (fun k => ?_) (Ev.now _)
    simp only [dlog_CheckOrder.l0]
    rw [if_neg (by omega)]
  | succ e ih =>
    intro i hi h
    have hilt : i < l.length := by omega
    have c1 : (i : Int) < ((ints l).length : Int) := by omega
    have c2 : (0 : Int) ≤ (i : Int) := by omega
    have hi1 : wrap64 ((i : Int) + 1) = ((i + 1 : Nat) : Int) := by rw [w64 (by omega) (by omega)]; rfl
    have hie : i + 1 + e = l.length := by omega
    have hmem : l.getD i 0 ∈ l := by
      rw [List.getD_eq_getElem?_getD, List.getElem?_eq_getElem hilt]
      exact List.getElem_mem hilt
    obtain ⟨hr1, hr2⟩ := (hl.2 _).1 hmem
    have hrd := rd_ints l i
    generalize hgr : l.getD i 0 = r at hmem hr1 hr2 hrd
    have hr2' := hr1.1
    have hrle := Nat.le_of_dvd ho hr2
    have hor : 0 < o / r := Nat.div_pos hrle (by omega)
    have hol : o / r ≤ o := Nat.div_le_self _ _
    have hne : ¬ ((r : Nat) : Int) = 0 := by omega
    have hd : wrap64 (Int.tdiv (o : Int) (r : Int)) = ((o / r : Nat) : Int) := by
      rw [Cw.tdiv_nat]; exact w64n _ (by omega)
    have hpow : field_GF_Pow.f G X ((o / r : Nat) : Int) = some (G.num (Cw.pw (G.el X) (o / r)), 0) := congrArg some (G.pow_nat X hor)
    have hst : ∀ R, Ev (fun k => if G.num (Cw.pw (G.el X) (o / r)) = 1 then some 13 else dlog_CheckOrder.l0 k G X (ints l) ((ints l).length : Int) ((i + 1 : Nat) : Int) (o : Int) (ints l)) R → Ev (fun k => dlog_CheckOrder.l0 k G X (ints l) ((ints l).length : Int) (i : Int) (o : Int) (ints l)) R := by
      intro R hR
      refine Ev.step (fun k => ?_) hR
      simp only [dlog_CheckOrder.l0]
      rw [if_pos c1, if_pos c2, if_pos c1, hrd, if_neg hne, hd, hpow, hi1]
      rfl
    by_cases h1 : Cw.pw (G.el X) (o / r) = 1
    · have hg : ¬ Good G X (o : Int) (ints l) := by
        rintro ⟨o', l', e1, e2, _⟩
        obtain rfl : o = o' := Int.ofNat.inj e1
        exact absurd (Nat.le_of_dvd hor ((e2.2 _).1 h1)) (Nat.not_le.2 (Nat.div_lt_self ho hr2'))
      rw [if_neg hg]
      exact hst _ (Ev.congr (fun k => if_pos (G.num_eq_one.2 h1)) (Ev.now _))
    · refine hst _ (Ev.congr (fun k => if_neg (fun e => h1 (G.num_eq_one.1 e))) (ih (i + 1) hie (fun t ht => ?_)))
      by_cases hti : t = i
      · rw [hti, hgr]
        exact h1
      · exact h t (Nat.lt_of_le_of_ne (Nat.le_of_lt_succ ht) hti)
open Classical in
theorem checkOrder_ev (G : GFv) (X O : Int) (Pl : List Int) : Ev (fun k => dlog_CheckOrder.f k G X O Pl) (if Good G X O Pl then 0 else 13) := by
  have hq := G.q_le
  have hq2 := G.q_ge
  have bad : ¬ Good G X O Pl → Ev (fun k => dlog_CheckOrder.j0 k G X true O Pl) (if Good G X O Pl then 0 else 13) := by
    intro h
    rw [if_neg h]
    refine Ev.step (f := fun _ => some _) (fun k => ?_) (Ev.now _)
    simp only [dlog_CheckOrder.j0]
    rfl
  have his : field_GF_Is.f G X = some (decide (G.is X)) := rfl
  have hor : field_GF_Order.f G = some (G.q : Int) := rfl
  by_cases h1 : G.is X
  · rw [decide_eq_true h1] at his
    by_cases h2 : X = 0
    · refine Ev.bind (Ev.congr (fun _ => his) (Ev.now _)) (Ev.congr (fun k => ?_) (bad ?_))
      · rw [if_pos rfl, if_pos h2]
      · rintro ⟨o, l, e1, e2, e3, e4⟩
        rw [h2, G.el_zero] at e2
        exact e2.ne rfl
    by_cases h3 : O < 1
    · refine Ev.bind (Ev.congr (fun _ => his) (Ev.now _)) (Ev.congr (fun k => ?_) (bad ?_))
      · rw [if_pos rfl, if_neg h2, if_pos h3]
      · rintro ⟨o, l, e1, e2, e3, e4⟩
        have := e2.1
        omega
    have hor' : ∀ R, Ev (fun k => (if O ≥ (G.q : Int) then (dlog_CheckOrder.j0 k G X true O Pl) else ((dlog_primes.f k O).bind fun t144 => ((slices_Equal_int_int.f k Pl t144).bind fun t147 => (dlog_CheckOrder.j0 k G X (!t147) O Pl))))) R → Ev (fun k => dlog_CheckOrder.f k G X O Pl) R := by
      intro R hR
      refine Ev.bind (Ev.congr (fun _ => his) (Ev.now _)) ?_
      refine Ev.congr (fun k => by rw [if_pos rfl, if_neg h2, if_neg h3]) ?_
      refine Ev.bind (Ev.congr (fun _ => hor) (Ev.now _)) ?_
      exact hR
    by_cases h4 : O ≥ (G.q : Int)
    · refine hor' _ (Ev.congr (fun k => if_pos h4) (bad ?_))
      rintro ⟨o, l, e1, e2, e3, e4⟩
      have := ord_lt G e2
      omega
    obtain ⟨o, rfl⟩ := Int.eq_ofNat_of_zero_le (show 0 ≤ O by omega)
    obtain ⟨l, hl, hev⟩ := primesP_ev o (by omega) (by omega)
    have hlen := prl_len hl (by omega)
    have heq := equal_ev Pl (ints l) (by rw [ints_length]; omega)
    have hst : ∀ R, Ev (fun k => dlog_CheckOrder.j0 k G X (!(decide (Pl = ints l))) (o : Int) Pl) R → Ev (fun k => dlog_CheckOrder.f k G X (o : Int) Pl) R := by
      intro R hR
      refine hor' _ (Ev.congr (fun k => if_neg h4) ?_)
      refine Ev.bind hev ?_
      refine Ev.bind heq ?_
      exact hR
    by_cases h5 : Pl = ints l
    · rw [decide_eq_true h5] at hst
      subst h5
      have hpow : field_GF_Pow.f G X (o : Int) = some (G.num (Cw.pw (G.el X) o), 0) := congrArg some (G.pow_nat X (by omega))
      by_cases h6 : Cw.pw (G.el X) o = 1
      · refine hst _ (Ev.step (fun k => ?_) (check_loop G X o l (by omega) (by omega) hl h6 l.length 0 (by omega) (fun t ht => by omega)))
        simp only [dlog_CheckOrder.j0]
        rw [if_neg (by decide), hpow]
        show (if G.num (Cw.pw (G.el X) o) = 1 then _ else _) = _
        rw [if_pos (G.num_eq_one.2 h6)]
        rfl
      · have hg : ¬ Good G X (o : Int) (ints l) := by
          rintro ⟨o', l', e1, e2, _⟩
          obtain rfl : o = o' := by omega
          exact h6 e2.pow_one
        rw [if_neg hg]
        refine hst _ (Ev.step (f := fun _ => some _) (fun k => ?_) (Ev.now _))
        simp only [dlog_CheckOrder.j0]
        rw [if_neg (by decide), hpow]
        show (if G.num (Cw.pw (G.el X) o) = 1 then _ else _) = _
        rw [if_neg (fun e => h6 (G.num_eq_one.1 e))]
    · rw [decide_eq_false h5] at hst
      refine hst _ (bad ?_)
      rintro ⟨o', l', e1, e2, e3, e4⟩
      obtain rfl : o = o' := by omega
      rw [e4, e3.uniq hl] at h5
      exact h5 rfl
  · rw [decide_eq_false h1] at his
    refine Ev.bind (Ev.congr (fun _ => his) (Ev.now _)) (Ev.congr (fun k => ?_) (bad ?_))
    · rw [if_neg (by decide)]
    · rintro ⟨o, l, e1, e2, e3, e4⟩
      refine e2.ne (G.el_eq_zero.2 ?_)
      unfold Cw.GFv.inn
      rw [if_neg h1]
end Go.Proofs.Ytbohbfggmnjpdaa.Pl
end
-- Oc
section
namespace Go.Proofs.Ytbohbfggmnjpdaa.Pl
open Go.RowKit Go.Proofs.Ytbohbfggmnjpdaa.P Go.Proofs.Ytbohbfggmnjpdaa.Hand Go.Proofs.YtbohbfggmnjpdaaW.PrintWords
theorem wf_lt {n : Int} (h : (Lit.int .i64 n).wf = true) : n < 9223372036854775808 := by
  simp only [Lit.wf, Bool.and_eq_true] at h
  have h2 := of_decide_eq_true h.2
  have h3 : IntKind.max .i64 = 9223372036854775807 := by decide
  omega
theorem open_cases (P M : Int) (mod : List Int) (hP : P < 9223372036854775808) :
    codewrightlaw08_open.f P M mod = some (none, true, true) ∨ (∃ G : GFv, Is G P M mod ∧ codewrightlaw08_open.f P M mod = some (some G, false, true)) := by
  rcases new_check P M mod hP with ⟨h1, h2⟩ | ⟨G, hG, h1, h2⟩
  · left
    unfold codewrightlaw08_open.f
    rw [h1]
    dsimp only
    rw [if_pos ⟨1, by decide, h2⟩]
    rfl
  · right
    refine ⟨G, hG, ?_⟩
    unfold codewrightlaw08_open.f
    rw [h1]
    dsimp only
    rw [if_neg ?_, if_pos ⟨h2, rfl⟩]
    rintro ⟨ck, h3, h4⟩
    exact h3 (Ev.uniq h4 h2)
end Go.Proofs.Ytbohbfggmnjpdaa.Pl
end
-- PureLS
section
namespace Go.Proofs.Ytbohbfggmnjpdaa
open Go.RowKit Go.Proofs.Ytbohbfggmnjpdaa.P Go.Proofs.Ytbohbfggmnjpdaa.Hand Go.Proofs.YtbohbfggmnjpdaaW.PrintWords Pl
theorem Pl.not_good_zero (G : GFv) : ¬ Pl.Good G 0 1 [] := by
  rintro ⟨o, l, e1, e2, e3, e4⟩
  rw [G.el_zero] at e2
  exact e2.ne rfl
theorem Pure.DlogSound (P M : Int) (l : List Int) (X O : Int) (m : List Int) (T : Int) (wP : (Lit.int .i64 P).wf = true) (wM : (Lit.int .i64 M).wf = true) (hl : l.length ≤ maxLen) (wl : ∀ x ∈ l, (Lit.int .i64 x).wf = true) (wX : (Lit.int .i64 X).wf = true) (wO : (Lit.int .i64 O).wf = true) (hm : m.length ≤ maxLen) (wm : ∀ x ∈ m, (Lit.int .i64 x).wf = true) (wT : (Lit.int .i64 T).wf = true) :
    ∃ k, codewrightlaw08_DlogSound.f k P M l X O m T = some true := by
  classical
  refine Ev.rounds (g := fun k => codewrightlaw08_DlogSound.f k P M l X O m T) ?_
  rcases open_cases P M l (wf_lt wP) with ho | ⟨G, hG, ho⟩
  · refine Ev.bind (Ev.congr (fun _ => ho) (Ev.now _)) ?_
    dsimp only [optE]
    exact Ev.congr (fun k => if_pos rfl) (Ev.now _)
  · refine Ev.bind (Ev.congr (fun _ => ho) (Ev.now _)) ?_
    dsimp only [optE]
    refine Ev.congr (fun k => if_neg Bool.false_ne_true) ?_
    refine Ev.bind (checkOrder_ev G 0 1 []) ?_
    refine Ev.congr (fun k => if_pos (if_neg (Pl.not_good_zero G))) ?_
    refine Ev.bind (checkOrder_ev G X O m) ?_
    by_cases hg : Pl.Good G X O m
    · refine Ev.congr (fun k => if_pos (if_pos hg)) ?_
      by_cases h1 : T < 1
      · exact Ev.congr (fun k => if_pos h1) (Ev.now _)
      refine Ev.congr (fun k => if_neg h1) ?_
      by_cases h2 : T ≥ O
      · exact Ev.congr (fun k => if_pos h2) (Ev.now _)
      refine Ev.congr (fun k => if_neg h2) ?_
      obtain ⟨t, rfl⟩ := Int.eq_ofNat_of_zero_le (show 0 ≤ T by omega)
      obtain ⟨o, ll, e1, e2, e3, e4⟩ := hg
      have hpow : field_GF_Pow.f G X (t : Int) = some (G.num (Cw.pw (G.el X) t), 0) := congrArg some (G.pow_nat X (by omega))
      refine Ev.bind (Ev.congr (fun _ => hpow) (Ev.now _)) ?_
      refine Ev.congr (fun k => if_pos rfl) ?_
      refine Ev.congr (fun k => ?_) (Ev.now _)
      have hne : G.num (Cw.pw (G.el X) t) ≠ 1 := by
        intro e
        have := Nat.le_of_dvd (by omega) ((e2.2 t).1 (G.num_eq_one.1 e))
        omega
      exact congrArg some (bne_iff_ne.2 hne)
    · exact Ev.congr (fun k => if_neg (by rw [if_neg hg]; decide)) (Ev.now _)
end Go.Proofs.Ytbohbfggmnjpdaa
end
