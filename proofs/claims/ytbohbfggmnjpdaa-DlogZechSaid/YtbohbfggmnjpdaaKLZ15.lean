/- What dlogZech_holds needs: texts Tb, LZ1, Q6, PureLZ, put together. -/
import Derived.Test.YtbohbfggmnjpdaaKLZ14
import Derived.Deep.RegionWith
import Derived.Maps.Own
import Derived.Maps.OwnOps
import Derived.Maps.OwnSet
import Derived.Maps.Views
set_option linter.unusedVariables false
set_option linter.unusedSimpArgs false
-- Tb
section
namespace Go.Proofs.Ytbohbfggmnjpdaa.Hand
noncomputable section
open Go.RowKit Go.Proofs.Ytbohbfggmnjpdaa.P Go.Proofs.YtbohbfggmnjpdaaW.PrintWords Go.Proofs.YtbohbfggmnjpdaaW.PrintLast Go.Proofs.YtbohbfggmnjpdaaW.PrintMore
open Classical in
def dlog_New.f (G : GFv) (b : Int) : Option (Option TBv × Int) :=
 if G.el b = 0 then some (none, 7) else if h : Cw.IsOrd (G.el b) (Cw.qq (Cw.El G.F) - 1) then some (some ⟨G, G.el b, h⟩, 0) else some (none, 5)
theorem dlog_New.calls (b_a0 : Nat) (a0 : GFv) (a1 : Int) (r1 : Option TBv) (r2 : Int) (w : World) (hg0 : GFok w b_a0 a0) (h : dlog_New.f a0 a1 = some (r1, r2)) :
  Calls Try.prog 51 #[.pointer (some ⟨b_a0, 0, none⟩), .int .i64 a1] w fun e w' => ∃ b_ : Nat, e = .returned (.tuple #[tbW b_ r1, .int .i64 r2]) ∧ Below w.heap.size w w' ∧ tbOk w' b_ r1 := by
 classical
 unfold dlog_New.f at h
 by_cases hx : a0.el a1 = 0
 ·rw [if_pos hx] at h
  have h' := Option.some.inj h
  injection h' with e1 e2
  subst e1
  subst e2
  refine (dnew_zero b_a0 a0 a1 ?_ w hg0).mono fun e w' ⟨h1, h2⟩ => ⟨0, h1, h2, trivial⟩
  refine Classical.byContradiction fun hn => ?_
  exact Pl.el_ne.2 ⟨Classical.byContradiction fun h => hn (Or.inl h), fun h => hn (Or.inr h)⟩ hx
 rw [if_neg hx] at h
 have his := (Pl.el_ne.1 hx).1
 have hne := (Pl.el_ne.1 hx).2
 by_cases hp : Cw.IsOrd (a0.el a1) (Cw.qq (Cw.El a0.F) - 1)
 ·rw [dif_pos hp] at h
  have h' := Option.some.inj h
  injection h' with e1 e2
  subst e1
  subst e2
  have hev := Pl.isPrimitive_ev a0 a1
  rw [decide_eq_true (show Cw.IsOrd (a0.el a1) (a0.q - 1) from hp)] at hev
  obtain ⟨k, hk⟩ := hev.rounds
  refine (dnew_ok b_a0 a0 a1 his hne k hk ⟨a0, a0.el a1, hp⟩ rfl ?_ w hg0).mono fun e w' ⟨b, h1, h2, h3⟩ => ⟨b, h1, h2, h3⟩
  show a0.num (a0.el a1) = a1
  rw [a0.num_el, a0.inn_of his]
 ·rw [dif_neg hp] at h
  have h' := Option.some.inj h
  injection h' with e1 e2
  subst e1
  subst e2
  have hev := Pl.isPrimitive_ev a0 a1
  rw [decide_eq_false (show ¬ Cw.IsOrd (a0.el a1) (a0.q - 1) from hp)] at hev
  obtain ⟨k, hk⟩ := hev.rounds
  exact (dnew_form b_a0 a0 a1 his hne k hk w hg0).mono fun e w' ⟨h1, h2⟩ => ⟨0, h1, h2, trivial⟩
set_option maxHeartbeats 8000000 in
set_option maxRecDepth 100000 in
theorem table_done (a0_0 : Int) (a0_1 : Int) (A0_2 : Option Addr) (c0_2 : Nat) (l0_2 : List Int) (b : Int) (w : World) (hr0_2 : Kd.C (Kd.int .i64) w A0_2 l0_2.length l0_2) (hc0_2 : l0_2.length ≤ c0_2) (hn : l8open.f a0_0 a0_1 l0_2 = some (none, true, true)) :
  Calls Try.prog 27 #[.agg #[.int .i64 a0_0, .int .i64 a0_1, .slice A0_2 l0_2.length c0_2], .int .i64 b] w fun e w' => e = .returned (.tuple #[.pointer none, .bool true, .bool true]) ∧ Below w.heap.size w w' := by
 have hu24 := Try.underlying24
 have hu22 := Try.underlying22
 have HR := Q9a.mk hr0_2
 have HC := Q9a.mk hc0_2
 clear hr0_2 hc0_2
 have HB := Q9a.mk (Below.refl w.heap.size w)
 have HN := Q9a.mk hn
 clear hn
 go_enter Try.func27, Try.ntmps27
 go_wp2_with (first | ((with_reducible refine gate_dst (N := 2) rfl ?_); refine box_event ?hg (N := 2) ?hd (cs := #[.int .i64 a0_0, .int .i64 a0_1, .slice A0_2 l0_2.length c0_2]) (t := 24) ?hr ?_; (case hd => rfl); (case hg => rfl); (case hr => first | (go_simp; done) | (go_simp; rfl)); intro gb hg w3 hbox hb; have n0_ := Q9a.mk (bP (by repeat (first | (with_reducible first | exact HB.out | apply bA | apply bN | apply bD | refine bS ?_ GEb.out) | exact HB.out)) hb); have n1_ := Q9a.mk hbox; have n2_ := Q9a.mk (show w.heap.size ≤ gb by rw [hg]; exact bZ HB.out); clear HB; have HB := n0_; have BKb := n1_; have GEb := n2_; clear n0_ n1_ n2_ hb hbox hg; have ha0 : w3.cell? ⟨gb, 0, none⟩ = some (.int .i64 a0_0) := (kC BKb.out 0).trans rfl; have ha1 : w3.cell? ⟨gb, 1, none⟩ = some (.int .i64 a0_1) := (kC BKb.out 1).trans rfl; have ha2 : w3.cell? ⟨gb, 2, none⟩ = some (.slice A0_2 l0_2.length c0_2) := (kC BKb.out 2).trans rfl) | ((with_reducible refine gate_callee (f := 13) rfl ?_); refine goesL_ (some 12) rfl rfl Try.func13 (by kernel_rfl) rfl #[.agg #[.int .i64 a0_0, .int .i64 a0_1, .slice A0_2 l0_2.length c0_2]] rfl (by (try simp only [List.map_toArray, List.map_cons, List.map_nil]); first | done | rfl | (simp only [List.length_drop, List.length_take]; rfl)) ?_; (with_reducible refine (l8open.calls a0_0 a0_1 _ _ l0_2 none true true _ ?side1 ?side2 HN.out).mono ?_); (case side1 => repeat (first | exact (Kd.C_below HR.out HB.out) | (with_reducible refine Kd.C_alloc ?_ _) | (with_reducible refine Kd.C_drewN ?_ _) | (with_reducible refine Kd.C_drew ?_))); (case side2 => exact HC.out); rintro e wn ⟨bn, rfl, hb, hok⟩; refine ⟨_, rfl, ?_⟩; clear hok; have n1_ := Q9a.mk (kB (g := gb) (o := .cells #[.int .i64 a0_0, .int .i64 a0_1, .slice A0_2 l0_2.length c0_2] 24 (0, 0)) (by (with_reducible repeat (first | refine kN ?_ _ | refine kD ?_ | refine kA ?_ _)); exact BKb.out) hb); have n2_ := Q9a.mk (bP (by repeat (first | (with_reducible first | exact HB.out | apply bA | apply bN | apply bD | refine bS ?_ GEb.out) | exact HB.out)) hb); clear BKb; clear HB; have BKb := n1_; have HB := n2_; clear n1_ n2_; (try clear hb); rw [gfW_none]; have hb0 : wn.cell? ⟨gb, 0, none⟩ = some (.int .i64 a0_0) := (kC BKb.out 0).trans rfl; have hb1 : wn.cell? ⟨gb, 1, none⟩ = some (.int .i64 a0_1) := (kC BKb.out 1).trans rfl; have hb2 : wn.cell? ⟨gb, 2, none⟩ = some (.slice A0_2 l0_2.length c0_2) := (kC BKb.out 2).trans rfl))
 go_ret3
 exact ⟨rfl, HB.out⟩
set_option maxHeartbeats 8000000 in
set_option maxRecDepth 100000 in
theorem table_ok (a0_0 : Int) (a0_1 : Int) (A0_2 : Option Addr) (c0_2 : Nat) (l0_2 : List Int) (b : Int) (w : World) (hr0_2 : Kd.C (Kd.int .i64) w A0_2 l0_2.length l0_2) (hc0_2 : l0_2.length ≤ c0_2) (kb : Nat) (G : GFv) (T : TBv) (hTb : T.G.num T.base = b) (hn : l8open.f a0_0 a0_1 l0_2 = some (some G, false, true)) (hw : dlog_New.f G b = some (some T, 0)) (hs : r8Base.f kb a0_0 a0_1 l0_2 b = some 0) :
  Calls Try.prog 27 #[.agg #[.int .i64 a0_0, .int .i64 a0_1, .slice A0_2 l0_2.length c0_2], .int .i64 b] w fun e w' => ∃ b_ : Nat, e = .returned (.tuple #[.pointer (some ⟨b_, 0, none⟩), .bool false, .bool true]) ∧ Below w.heap.size w w' ∧ TBok w' b_ T := by
 have hu24 := Try.underlying24
 have hu22 := Try.underlying22
 have HR := Q9a.mk hr0_2
 have HC := Q9a.mk hc0_2
 clear hr0_2 hc0_2
 have HB := Q9a.mk (Below.refl w.heap.size w)
 have HN := Q9a.mk hn
 clear hn
 have HW := Q9a.mk hw
 have HS := Q9a.mk hs
 clear hw hs
 go_enter Try.func27, Try.ntmps27
 go_wp2_with (first | ((with_reducible refine gate_dst (N := 2) rfl ?_); refine box_event ?hg (N := 2) ?hd (cs := #[.int .i64 a0_0, .int .i64 a0_1, .slice A0_2 l0_2.length c0_2]) (t := 24) ?hr ?_; (case hd => rfl); (case hg => rfl); (case hr => first | (go_simp; done) | (go_simp; rfl)); intro gb hg w3 hbox hb; have n0_ := Q9a.mk (bP (by repeat (first | (with_reducible first | exact HB.out | apply bA | apply bN | apply bD | refine bS ?_ GEb.out) | exact HB.out)) hb); have n1_ := Q9a.mk hbox; have n2_ := Q9a.mk (show w.heap.size ≤ gb by rw [hg]; exact bZ HB.out); clear HB; have HB := n0_; have BKb := n1_; have GEb := n2_; clear n0_ n1_ n2_ hb hbox hg; have ha0 : w3.cell? ⟨gb, 0, none⟩ = some (.int .i64 a0_0) := (kC BKb.out 0).trans rfl; have ha1 : w3.cell? ⟨gb, 1, none⟩ = some (.int .i64 a0_1) := (kC BKb.out 1).trans rfl; have ha2 : w3.cell? ⟨gb, 2, none⟩ = some (.slice A0_2 l0_2.length c0_2) := (kC BKb.out 2).trans rfl) | ((with_reducible refine gate_callee (f := 13) rfl ?_); refine goesL_ (some 12) rfl rfl Try.func13 (by kernel_rfl) rfl #[.agg #[.int .i64 a0_0, .int .i64 a0_1, .slice A0_2 l0_2.length c0_2]] rfl (by (try simp only [List.map_toArray, List.map_cons, List.map_nil]); first | done | rfl | (simp only [List.length_drop, List.length_take]; rfl)) ?_; (with_reducible refine (l8open.calls a0_0 a0_1 _ _ l0_2 (some G) false true _ ?side1 ?side2 HN.out).mono ?_); (case side1 => repeat (first | exact (Kd.C_below HR.out HB.out) | (with_reducible refine Kd.C_alloc ?_ _) | (with_reducible refine Kd.C_drewN ?_ _) | (with_reducible refine Kd.C_drew ?_))); (case side2 => exact HC.out); rintro e wn ⟨bn, rfl, hb, hok⟩; refine ⟨_, rfl, ?_⟩; have ok_ := Q9a.mk (show GFok wn bn G from hok); clear hok; have n1_ := Q9a.mk (kB (g := gb) (o := .cells #[.int .i64 a0_0, .int .i64 a0_1, .slice A0_2 l0_2.length c0_2] 24 (0, 0)) (by (with_reducible repeat (first | refine kN ?_ _ | refine kD ?_ | refine kA ?_ _)); exact BKb.out) hb); have n2_ := Q9a.mk (bP (by repeat (first | (with_reducible first | exact HB.out | apply bA | apply bN | apply bD | refine bS ?_ GEb.out) | exact HB.out)) hb); clear BKb; clear HB; have BKb := n1_; have HB := n2_; clear n1_ n2_; (try clear hb); rw [gfW_some]; have hb0 : wn.cell? ⟨gb, 0, none⟩ = some (.int .i64 a0_0) := (kC BKb.out 0).trans rfl; have hb1 : wn.cell? ⟨gb, 1, none⟩ = some (.int .i64 a0_1) := (kC BKb.out 1).trans rfl; have hb2 : wn.cell? ⟨gb, 2, none⟩ = some (.slice A0_2 l0_2.length c0_2) := (kC BKb.out 2).trans rfl; have hnew := dlog_New.calls bn G b (some T) 0 wn ok_.out HW.out) | (go_at_call 51; refine hnew.mono ?_; clear hnew; rintro e wt ⟨bt, rfl, hb, hokt⟩; have nk_ := Q9a.mk (GFok.belowT ok_.out hb); clear ok_; have ok_ := nk_; clear nk_; have n1_ := Q9a.mk (kB (g := gb) (o := .cells #[.int .i64 a0_0, .int .i64 a0_1, .slice A0_2 l0_2.length c0_2] 24 (0, 0)) (by (with_reducible repeat (first | refine kN ?_ _ | refine kD ?_ | refine kA ?_ _)); exact BKb.out) hb); have n2_ := Q9a.mk (bP (by repeat (first | (with_reducible first | exact HB.out | apply bA | apply bN | apply bD | refine bS ?_ GEb.out) | exact HB.out)) hb); clear BKb; clear HB; have BKb := n1_; have HB := n2_; clear n1_ n2_; (try clear hb); have hc0 : wt.cell? ⟨gb, 0, none⟩ = some (.int .i64 a0_0) := (kC BKb.out 0).trans rfl; have hc1 : wt.cell? ⟨gb, 1, none⟩ = some (.int .i64 a0_1) := (kC BKb.out 1).trans rfl; have hc2 : wt.cell? ⟨gb, 2, none⟩ = some (.slice A0_2 l0_2.length c0_2) := (kC BKb.out 2).trans rfl; have tk_ := Q9a.mk (show TBok wt bt T from hokt); clear hokt; rw [tbW_some]) | ((with_reducible refine gate_callee (f := 52) rfl ?_); refine goesL_ (some 27) rfl rfl Try.func52 (by kernel_rfl) rfl #[.agg #[.int .i64 a0_0, .int .i64 a0_1, .slice A0_2 l0_2.length c0_2], .int .i64 b] rfl (by (try simp only [List.map_toArray, List.map_cons, List.map_nil]); first | done | rfl | (simp only [List.length_drop, List.length_take]; rfl)) ?_; (with_reducible refine (r8Base.calls kb a0_0 a0_1 _ _ l0_2 b 0 _ ?side1 ?side2 HS.out).mono ?_); (case side1 => repeat (first | exact (Kd.C_below HR.out HB.out) | (with_reducible refine Kd.C_alloc ?_ _) | (with_reducible refine Kd.C_drewN ?_ _) | (with_reducible refine Kd.C_drew ?_))); (case side2 => exact HC.out); rintro e wb ⟨rfl, hb⟩; refine ⟨_, rfl, ?_⟩; have nk_ := Q9a.mk (GFok.belowT ok_.out hb); clear ok_; have ok_ := nk_; clear nk_; have nt_ := Q9a.mk (TBok.belowT tk_.out hb); clear tk_; have tk_ := nt_; clear nt_; have n1_ := Q9a.mk (kB (g := gb) (o := .cells #[.int .i64 a0_0, .int .i64 a0_1, .slice A0_2 l0_2.length c0_2] 24 (0, 0)) (by (with_reducible repeat (first | refine kN ?_ _ | refine kD ?_ | refine kA ?_ _)); exact BKb.out) hb); have n2_ := Q9a.mk (bP (by repeat (first | (with_reducible first | exact HB.out | apply bA | apply bN | apply bD | refine bS ?_ GEb.out) | exact HB.out)) hb); clear BKb; clear HB; have BKb := n1_; have HB := n2_; clear n1_ n2_; (try clear hb); have hd0 : wb.cell? ⟨gb, 0, none⟩ = some (.int .i64 a0_0) := (kC BKb.out 0).trans rfl; have hd1 : wb.cell? ⟨gb, 1, none⟩ = some (.int .i64 a0_1) := (kC BKb.out 1).trans rfl; have hd2 : wb.cell? ⟨gb, 2, none⟩ = some (.slice A0_2 l0_2.length c0_2) := (kC BKb.out 2).trans rfl; have hbs := dlog_Table_Base.calls bt T b wb tk_.out (congrArg some hTb)) | (go_at_call 53; refine hbs.mono ?_; clear hbs; rintro e wx ⟨rfl, hb⟩; have nt_ := Q9a.mk (TBok.belowT tk_.out hb); clear tk_; have tk_ := nt_; clear nt_; have nh_ := Q9a.mk (bP HB.out hb); clear HB; have HB := nh_; clear nh_ hb))
 go_ret3
 exact ⟨bt, rfl, HB.out, tk_.out⟩
set_option maxHeartbeats 8000000 in
set_option maxRecDepth 100000 in
theorem table_bad7 (a0_0 : Int) (a0_1 : Int) (A0_2 : Option Addr) (c0_2 : Nat) (l0_2 : List Int) (b : Int) (w : World) (hr0_2 : Kd.C (Kd.int .i64) w A0_2 l0_2.length l0_2) (hc0_2 : l0_2.length ≤ c0_2) (kb ki ko : Nat) (G : GFv) (hn : l8open.f a0_0 a0_1 l0_2 = some (some G, false, true)) (hw : dlog_New.f G b = some (none, 7)) (hs : r8Base.f kb a0_0 a0_1 l0_2 b = some 7) (v : Bool) (q : Int) (hi : dlog_IsPrimitive.f ki G 1 = some v) (ho : r4Order.f ko a0_0 a0_1 l0_2 = some q) (hv : (v == (q == 2)) = true) :
  Calls Try.prog 27 #[.agg #[.int .i64 a0_0, .int .i64 a0_1, .slice A0_2 l0_2.length c0_2], .int .i64 b] w fun e w' => e = .returned (.tuple #[.pointer none, .bool true, .bool true]) ∧ Below w.heap.size w w' := by
 have hu24 := Try.underlying24
 have hu22 := Try.underlying22
 have HR := Q9a.mk hr0_2
 have HC := Q9a.mk hc0_2
 clear hr0_2 hc0_2
 have HB := Q9a.mk (Below.refl w.heap.size w)
 have HN := Q9a.mk hn
 clear hn
 have HW := Q9a.mk hw
 have HS := Q9a.mk hs
 have HI := Q9a.mk hi
 have HO := Q9a.mk ho
 clear hw hs hi ho
 go_enter Try.func27, Try.ntmps27
 go_upto_region 7 with (first | ((with_reducible refine gate_dst (N := 2) rfl ?_); refine box_event ?hg (N := 2) ?hd (cs := #[.int .i64 a0_0, .int .i64 a0_1, .slice A0_2 l0_2.length c0_2]) (t := 24) ?hr ?_; (case hd => rfl); (case hg => rfl); (case hr => first | (go_simp; done) | (go_simp; rfl)); intro gb hg w3 hbox hb; have n0_ := Q9a.mk (bP (by repeat (first | (with_reducible first | exact HB.out | apply bA | apply bN | apply bD | refine bS ?_ GEb.out) | exact HB.out)) hb); have n1_ := Q9a.mk hbox; have n2_ := Q9a.mk (show w.heap.size ≤ gb by rw [hg]; exact bZ HB.out); clear HB; have HB := n0_; have BKb := n1_; have GEb := n2_; clear n0_ n1_ n2_ hb hbox hg; have ha0 : w3.cell? ⟨gb, 0, none⟩ = some (.int .i64 a0_0) := (kC BKb.out 0).trans rfl; have ha1 : w3.cell? ⟨gb, 1, none⟩ = some (.int .i64 a0_1) := (kC BKb.out 1).trans rfl; have ha2 : w3.cell? ⟨gb, 2, none⟩ = some (.slice A0_2 l0_2.length c0_2) := (kC BKb.out 2).trans rfl) | ((with_reducible refine gate_callee (f := 13) rfl ?_); refine goesL_ (some 12) rfl rfl Try.func13 (by kernel_rfl) rfl #[.agg #[.int .i64 a0_0, .int .i64 a0_1, .slice A0_2 l0_2.length c0_2]] rfl (by (try simp only [List.map_toArray, List.map_cons, List.map_nil]); first | done | rfl | (simp only [List.length_drop, List.length_take]; rfl)) ?_; (with_reducible refine (l8open.calls a0_0 a0_1 _ _ l0_2 (some G) false true _ ?side1 ?side2 HN.out).mono ?_); (case side1 => repeat (first | exact (Kd.C_below HR.out HB.out) | (with_reducible refine Kd.C_alloc ?_ _) | (with_reducible refine Kd.C_drewN ?_ _) | (with_reducible refine Kd.C_drew ?_))); (case side2 => exact HC.out); rintro e wn ⟨bn, rfl, hb, hok⟩; refine ⟨_, rfl, ?_⟩; have ok_ := Q9a.mk (show GFok wn bn G from hok); clear hok; have n1_ := Q9a.mk (kB (g := gb) (o := .cells #[.int .i64 a0_0, .int .i64 a0_1, .slice A0_2 l0_2.length c0_2] 24 (0, 0)) (by (with_reducible repeat (first | refine kN ?_ _ | refine kD ?_ | refine kA ?_ _)); exact BKb.out) hb); have n2_ := Q9a.mk (bP (by repeat (first | (with_reducible first | exact HB.out | apply bA | apply bN | apply bD | refine bS ?_ GEb.out) | exact HB.out)) hb); clear BKb; clear HB; have BKb := n1_; have HB := n2_; clear n1_ n2_; (try clear hb); rw [gfW_some]; have hb0 : wn.cell? ⟨gb, 0, none⟩ = some (.int .i64 a0_0) := (kC BKb.out 0).trans rfl; have hb1 : wn.cell? ⟨gb, 1, none⟩ = some (.int .i64 a0_1) := (kC BKb.out 1).trans rfl; have hb2 : wn.cell? ⟨gb, 2, none⟩ = some (.slice A0_2 l0_2.length c0_2) := (kC BKb.out 2).trans rfl; have hnew := dlog_New.calls bn G b none 7 wn ok_.out HW.out) | (go_at_call 51; refine hnew.mono ?_; clear hnew; rintro e wt ⟨bt, rfl, hb, hokt⟩; have nk_ := Q9a.mk (GFok.belowT ok_.out hb); clear ok_; have ok_ := nk_; clear nk_; have n1_ := Q9a.mk (kB (g := gb) (o := .cells #[.int .i64 a0_0, .int .i64 a0_1, .slice A0_2 l0_2.length c0_2] 24 (0, 0)) (by (with_reducible repeat (first | refine kN ?_ _ | refine kD ?_ | refine kA ?_ _)); exact BKb.out) hb); have n2_ := Q9a.mk (bP (by repeat (first | (with_reducible first | exact HB.out | apply bA | apply bN | apply bD | refine bS ?_ GEb.out) | exact HB.out)) hb); clear BKb; clear HB; have BKb := n1_; have HB := n2_; clear n1_ n2_; (try clear hb); have hc0 : wt.cell? ⟨gb, 0, none⟩ = some (.int .i64 a0_0) := (kC BKb.out 0).trans rfl; have hc1 : wt.cell? ⟨gb, 1, none⟩ = some (.int .i64 a0_1) := (kC BKb.out 1).trans rfl; have hc2 : wt.cell? ⟨gb, 2, none⟩ = some (.slice A0_2 l0_2.length c0_2) := (kC BKb.out 2).trans rfl; clear hokt; rw [tbW_none]) | ((with_reducible refine gate_callee (f := 52) rfl ?_); refine goesL_ (some 27) rfl rfl Try.func52 (by kernel_rfl) rfl #[.agg #[.int .i64 a0_0, .int .i64 a0_1, .slice A0_2 l0_2.length c0_2], .int .i64 b] rfl (by (try simp only [List.map_toArray, List.map_cons, List.map_nil]); first | done | rfl | (simp only [List.length_drop, List.length_take]; rfl)) ?_; (with_reducible refine (r8Base.calls kb a0_0 a0_1 _ _ l0_2 b 7 _ ?side1 ?side2 HS.out).mono ?_); (case side1 => repeat (first | exact (Kd.C_below HR.out HB.out) | (with_reducible refine Kd.C_alloc ?_ _) | (with_reducible refine Kd.C_drewN ?_ _) | (with_reducible refine Kd.C_drew ?_))); (case side2 => exact HC.out); rintro e wb ⟨rfl, hb⟩; refine ⟨_, rfl, ?_⟩; have nk_ := Q9a.mk (GFok.belowT ok_.out hb); clear ok_; have ok_ := nk_; clear nk_; have n1_ := Q9a.mk (kB (g := gb) (o := .cells #[.int .i64 a0_0, .int .i64 a0_1, .slice A0_2 l0_2.length c0_2] 24 (0, 0)) (by (with_reducible repeat (first | refine kN ?_ _ | refine kD ?_ | refine kA ?_ _)); exact BKb.out) hb); have n2_ := Q9a.mk (bP (by repeat (first | (with_reducible first | exact HB.out | apply bA | apply bN | apply bD | refine bS ?_ GEb.out) | exact HB.out)) hb); clear BKb; clear HB; have BKb := n1_; have HB := n2_; clear n1_ n2_; (try clear hb); have hd0 : wb.cell? ⟨gb, 0, none⟩ = some (.int .i64 a0_0) := (kC BKb.out 0).trans rfl; have hd1 : wb.cell? ⟨gb, 1, none⟩ = some (.int .i64 a0_1) := (kC BKb.out 1).trans rfl; have hd2 : wb.cell? ⟨gb, 2, none⟩ = some (.slice A0_2 l0_2.length c0_2) := (kC BKb.out 2).trans rfl))
 go_region_with (first | (go_at_call 19; refine (dlog_IsPrimitive.calls ki bn G 1 v _ (GFok.belowT (w1 := wb.drew) ok_.out (bD (Below.refl _ _))) HI.out).mono ?_; rintro e wi ⟨rfl, hb⟩; have n1_ := Q9a.mk (kB (g := gb) (o := .cells #[.int .i64 a0_0, .int .i64 a0_1, .slice A0_2 l0_2.length c0_2] 24 (0, 0)) (by (with_reducible repeat (first | refine kN ?_ _ | refine kD ?_ | refine kA ?_ _)); exact BKb.out) hb); have n2_ := Q9a.mk (bP (by repeat (first | (with_reducible first | exact HB.out | apply bA | apply bN | apply bD | refine bS ?_ GEb.out) | exact HB.out)) hb); clear BKb; clear HB; have BKb := n1_; have HB := n2_; clear n1_ n2_; (try clear hb); have he0 : wi.cell? ⟨gb, 0, none⟩ = some (.int .i64 a0_0) := (kC BKb.out 0).trans rfl; have he1 : wi.cell? ⟨gb, 1, none⟩ = some (.int .i64 a0_1) := (kC BKb.out 1).trans rfl; have he2 : wi.cell? ⟨gb, 2, none⟩ = some (.slice A0_2 l0_2.length c0_2) := (kC BKb.out 2).trans rfl) | (go_at_call 33; refine (r4Order.calls ko a0_0 a0_1 _ _ l0_2 q _ ?side1 ?side2 HO.out).mono ?_; (case side1 => repeat (first | exact (Kd.C_below HR.out HB.out) | (with_reducible refine Kd.C_alloc ?_ _) | (with_reducible refine Kd.C_drewN ?_ _) | (with_reducible refine Kd.C_drew ?_))); (case side2 => exact HC.out); rintro e wo ⟨rfl, hb⟩; have n1_ := Q9a.mk (kB (g := gb) (o := .cells #[.int .i64 a0_0, .int .i64 a0_1, .slice A0_2 l0_2.length c0_2] 24 (0, 0)) (by (with_reducible repeat (first | refine kN ?_ _ | refine kD ?_ | refine kA ?_ _)); exact BKb.out) hb); have n2_ := Q9a.mk (bP (by repeat (first | (with_reducible first | exact HB.out | apply bA | apply bN | apply bD | refine bS ?_ GEb.out) | exact HB.out)) hb); clear BKb; clear HB; have BKb := n1_; have HB := n2_; clear n1_ n2_; (try clear hb)))
 all_goals (
  go_wp2
  go_simp
  go_ret3
  exact ⟨rfl, HB.out⟩)
set_option maxHeartbeats 8000000 in
set_option maxRecDepth 100000 in
theorem table_bad5 (a0_0 : Int) (a0_1 : Int) (A0_2 : Option Addr) (c0_2 : Nat) (l0_2 : List Int) (b : Int) (w : World) (hr0_2 : Kd.C (Kd.int .i64) w A0_2 l0_2.length l0_2) (hc0_2 : l0_2.length ≤ c0_2) (kb ki ko : Nat) (G : GFv) (hn : l8open.f a0_0 a0_1 l0_2 = some (some G, false, true)) (hw : dlog_New.f G b = some (none, 5)) (hs : r8Base.f kb a0_0 a0_1 l0_2 b = some 5) (v : Bool) (q : Int) (hi : dlog_IsPrimitive.f ki G 1 = some v) (ho : r4Order.f ko a0_0 a0_1 l0_2 = some q) (hv : (v == (q == 2)) = true) :
  Calls Try.prog 27 #[.agg #[.int .i64 a0_0, .int .i64 a0_1, .slice A0_2 l0_2.length c0_2], .int .i64 b] w fun e w' => e = .returned (.tuple #[.pointer none, .bool true, .bool true]) ∧ Below w.heap.size w w' := by
 have hu24 := Try.underlying24
 have hu22 := Try.underlying22
 have HR := Q9a.mk hr0_2
 have HC := Q9a.mk hc0_2
 clear hr0_2 hc0_2
 have HB := Q9a.mk (Below.refl w.heap.size w)
 have HN := Q9a.mk hn
 clear hn
 have HW := Q9a.mk hw
 have HS := Q9a.mk hs
 have HI := Q9a.mk hi
 have HO := Q9a.mk ho
 clear hw hs hi ho
 go_enter Try.func27, Try.ntmps27
 go_upto_region 7 with (first | ((with_reducible refine gate_dst (N := 2) rfl ?_); refine box_event ?hg (N := 2) ?hd (cs := #[.int .i64 a0_0, .int .i64 a0_1, .slice A0_2 l0_2.length c0_2]) (t := 24) ?hr ?_; (case hd => rfl); (case hg => rfl); (case hr => first | (go_simp; done) | (go_simp; rfl)); intro gb hg w3 hbox hb; have n0_ := Q9a.mk (bP (by repeat (first | (with_reducible first | exact HB.out | apply bA | apply bN | apply bD | refine bS ?_ GEb.out) | exact HB.out)) hb); have n1_ := Q9a.mk hbox; have n2_ := Q9a.mk (show w.heap.size ≤ gb by rw [hg]; exact bZ HB.out); clear HB; have HB := n0_; have BKb := n1_; have GEb := n2_; clear n0_ n1_ n2_ hb hbox hg; have ha0 : w3.cell? ⟨gb, 0, none⟩ = some (.int .i64 a0_0) := (kC BKb.out 0).trans rfl; have ha1 : w3.cell? ⟨gb, 1, none⟩ = some (.int .i64 a0_1) := (kC BKb.out 1).trans rfl; have ha2 : w3.cell? ⟨gb, 2, none⟩ = some (.slice A0_2 l0_2.length c0_2) := (kC BKb.out 2).trans rfl) | ((with_reducible refine gate_callee (f := 13) rfl ?_); refine goesL_ (some 12) rfl rfl Try.func13 (by kernel_rfl) rfl #[.agg #[.int .i64 a0_0, .int .i64 a0_1, .slice A0_2 l0_2.length c0_2]] rfl (by (try simp only [List.map_toArray, List.map_cons, List.map_nil]); first | done | rfl | (simp only [List.length_drop, List.length_take]; rfl)) ?_; (with_reducible refine (l8open.calls a0_0 a0_1 _ _ l0_2 (some G) false true _ ?side1 ?side2 HN.out).mono ?_); (case side1 => repeat (first | exact (Kd.C_below HR.out HB.out) | (with_reducible refine Kd.C_alloc ?_ _) | (with_reducible refine Kd.C_drewN ?_ _) | (with_reducible refine Kd.C_drew ?_))); (case side2 => exact HC.out); rintro e wn ⟨bn, rfl, hb, hok⟩; refine ⟨_, rfl, ?_⟩; have ok_ := Q9a.mk (show GFok wn bn G from hok); clear hok; have n1_ := Q9a.mk (kB (g := gb) (o := .cells #[.int .i64 a0_0, .int .i64 a0_1, .slice A0_2 l0_2.length c0_2] 24 (0, 0)) (by (with_reducible repeat (first | refine kN ?_ _ | refine kD ?_ | refine kA ?_ _)); exact BKb.out) hb); have n2_ := Q9a.mk (bP (by repeat (first | (with_reducible first | exact HB.out | apply bA | apply bN | apply bD | refine bS ?_ GEb.out) | exact HB.out)) hb); clear BKb; clear HB; have BKb := n1_; have HB := n2_; clear n1_ n2_; (try clear hb); rw [gfW_some]; have hb0 : wn.cell? ⟨gb, 0, none⟩ = some (.int .i64 a0_0) := (kC BKb.out 0).trans rfl; have hb1 : wn.cell? ⟨gb, 1, none⟩ = some (.int .i64 a0_1) := (kC BKb.out 1).trans rfl; have hb2 : wn.cell? ⟨gb, 2, none⟩ = some (.slice A0_2 l0_2.length c0_2) := (kC BKb.out 2).trans rfl; have hnew := dlog_New.calls bn G b none 5 wn ok_.out HW.out) | (go_at_call 51; refine hnew.mono ?_; clear hnew; rintro e wt ⟨bt, rfl, hb, hokt⟩; have nk_ := Q9a.mk (GFok.belowT ok_.out hb); clear ok_; have ok_ := nk_; clear nk_; have n1_ := Q9a.mk (kB (g := gb) (o := .cells #[.int .i64 a0_0, .int .i64 a0_1, .slice A0_2 l0_2.length c0_2] 24 (0, 0)) (by (with_reducible repeat (first | refine kN ?_ _ | refine kD ?_ | refine kA ?_ _)); exact BKb.out) hb); have n2_ := Q9a.mk (bP (by repeat (first | (with_reducible first | exact HB.out | apply bA | apply bN | apply bD | refine bS ?_ GEb.out) | exact HB.out)) hb); clear BKb; clear HB; have BKb := n1_; have HB := n2_; clear n1_ n2_; (try clear hb); have hc0 : wt.cell? ⟨gb, 0, none⟩ = some (.int .i64 a0_0) := (kC BKb.out 0).trans rfl; have hc1 : wt.cell? ⟨gb, 1, none⟩ = some (.int .i64 a0_1) := (kC BKb.out 1).trans rfl; have hc2 : wt.cell? ⟨gb, 2, none⟩ = some (.slice A0_2 l0_2.length c0_2) := (kC BKb.out 2).trans rfl; clear hokt; rw [tbW_none]) | ((with_reducible refine gate_callee (f := 52) rfl ?_); refine goesL_ (some 27) rfl rfl Try.func52 (by kernel_rfl) rfl #[.agg #[.int .i64 a0_0, .int .i64 a0_1, .slice A0_2 l0_2.length c0_2], .int .i64 b] rfl (by (try simp only [List.map_toArray, List.map_cons, List.map_nil]); first | done | rfl | (simp only [List.length_drop, List.length_take]; rfl)) ?_; (with_reducible refine (r8Base.calls kb a0_0 a0_1 _ _ l0_2 b 5 _ ?side1 ?side2 HS.out).mono ?_); (case side1 => repeat (first | exact (Kd.C_below HR.out HB.out) | (with_reducible refine Kd.C_alloc ?_ _) | (with_reducible refine Kd.C_drewN ?_ _) | (with_reducible refine Kd.C_drew ?_))); (case side2 => exact HC.out); rintro e wb ⟨rfl, hb⟩; refine ⟨_, rfl, ?_⟩; have nk_ := Q9a.mk (GFok.belowT ok_.out hb); clear ok_; have ok_ := nk_; clear nk_; have n1_ := Q9a.mk (kB (g := gb) (o := .cells #[.int .i64 a0_0, .int .i64 a0_1, .slice A0_2 l0_2.length c0_2] 24 (0, 0)) (by (with_reducible repeat (first | refine kN ?_ _ | refine kD ?_ | refine kA ?_ _)); exact BKb.out) hb); have n2_ := Q9a.mk (bP (by repeat (first | (with_reducible first | exact HB.out | apply bA | apply bN | apply bD | refine bS ?_ GEb.out) | exact HB.out)) hb); clear BKb; clear HB; have BKb := n1_; have HB := n2_; clear n1_ n2_; (try clear hb); have hd0 : wb.cell? ⟨gb, 0, none⟩ = some (.int .i64 a0_0) := (kC BKb.out 0).trans rfl; have hd1 : wb.cell? ⟨gb, 1, none⟩ = some (.int .i64 a0_1) := (kC BKb.out 1).trans rfl; have hd2 : wb.cell? ⟨gb, 2, none⟩ = some (.slice A0_2 l0_2.length c0_2) := (kC BKb.out 2).trans rfl))
 go_region_with (first | (go_at_call 19; refine (dlog_IsPrimitive.calls ki bn G 1 v _ (GFok.belowT (w1 := wb.drew) ok_.out (bD (Below.refl _ _))) HI.out).mono ?_; rintro e wi ⟨rfl, hb⟩; have n1_ := Q9a.mk (kB (g := gb) (o := .cells #[.int .i64 a0_0, .int .i64 a0_1, .slice A0_2 l0_2.length c0_2] 24 (0, 0)) (by (with_reducible repeat (first | refine kN ?_ _ | refine kD ?_ | refine kA ?_ _)); exact BKb.out) hb); have n2_ := Q9a.mk (bP (by repeat (first | (with_reducible first | exact HB.out | apply bA | apply bN | apply bD | refine bS ?_ GEb.out) | exact HB.out)) hb); clear BKb; clear HB; have BKb := n1_; have HB := n2_; clear n1_ n2_; (try clear hb); have he0 : wi.cell? ⟨gb, 0, none⟩ = some (.int .i64 a0_0) := (kC BKb.out 0).trans rfl; have he1 : wi.cell? ⟨gb, 1, none⟩ = some (.int .i64 a0_1) := (kC BKb.out 1).trans rfl; have he2 : wi.cell? ⟨gb, 2, none⟩ = some (.slice A0_2 l0_2.length c0_2) := (kC BKb.out 2).trans rfl) | (go_at_call 33; refine (r4Order.calls ko a0_0 a0_1 _ _ l0_2 q _ ?side1 ?side2 HO.out).mono ?_; (case side1 => repeat (first | exact (Kd.C_below HR.out HB.out) | (with_reducible refine Kd.C_alloc ?_ _) | (with_reducible refine Kd.C_drewN ?_ _) | (with_reducible refine Kd.C_drew ?_))); (case side2 => exact HC.out); rintro e wo ⟨rfl, hb⟩; have n1_ := Q9a.mk (kB (g := gb) (o := .cells #[.int .i64 a0_0, .int .i64 a0_1, .slice A0_2 l0_2.length c0_2] 24 (0, 0)) (by (with_reducible repeat (first | refine kN ?_ _ | refine kD ?_ | refine kA ?_ _)); exact BKb.out) hb); have n2_ := Q9a.mk (bP (by repeat (first | (with_reducible first | exact HB.out | apply bA | apply bN | apply bD | refine bS ?_ GEb.out) | exact HB.out)) hb); clear BKb; clear HB; have BKb := n1_; have HB := n2_; clear n1_ n2_; (try clear hb)))
 all_goals (
  go_wp2
  go_simp
  go_ret3
  exact ⟨rfl, HB.out⟩)
theorem refBase_zero {G : GFv} {P M : Int} {mod : List Int} (h : Pl.Is G P M mod) (b : Int) (hb : G.el b = 0) : Ev (fun k => r8Base.f k P M mod b) 7 := by
 refine Ev.bind (Pl.is_in h b) ?_
 exact Ev.congr (fun k => if_pos (G.el_eq_zero.1 hb)) (Ev.now _)
theorem refBase_ne {G : GFv} {P M : Int} {mod : List Int} (h : Pl.Is G P M mod) (b : Int) (hb : G.el b ≠ 0) : Ev (fun k => r8Base.f k P M mod b) (if Pl.prB G b = true then 0 else 5) := by
 refine Ev.bind (Pl.is_in h b) ?_
 refine Ev.congr (fun k => if_neg (fun e => hb (G.el_eq_zero.2 e))) ?_
 refine Ev.bind (Pl.is_isPrimitive h b) ?_
 cases hp : Pl.prB G b
 ·exact Ev.congr (fun k => rfl) (Ev.now _)
 ·exact Ev.congr (fun k => rfl) (Ev.now _)
theorem one_ord (G : GFv) : Cw.IsOrd (G.el 1) (G.q - 1) ↔ G.q = 2 := by
 have hq2 := G.q_ge
 rw [G.el_one]
 constructor
 ·intro h
  have := (h.2 1).1 (Cw.one_pw 1)
  have h1 := Nat.le_of_dvd (by omega) this
  omega
 ·intro h
  rw [h]
  exact ⟨by omega, fun k => ⟨fun _ => Nat.one_dvd k, fun _ => Cw.one_pw k⟩⟩
open Classical in
def l8table.f (P M : Int) (mod : List Int) (b : Int) : Option (Option TBv × Bool × Bool) :=
 if l8open.f P M mod = some (none, true, true) then some (none, true, true)
 else if h : ∃ T : TBv, Pl.Is T.G P M mod ∧ T.G.el b = T.base ∧ l8open.f P M mod = some (some T.G, false, true) then some (some (Classical.choose h), false, true)
 else if ∃ G : GFv, Pl.Is G P M mod ∧ l8open.f P M mod = some (some G, false, true) ∧ ¬ Cw.IsOrd (G.el b) (Cw.qq (Cw.El G.F) - 1) then some (none, true, true) else none
theorem l8table.calls (a0_0 : Int) (a0_1 : Int) (A0_2 : Option Addr) (c0_2 : Nat) (l0_2 : List Int) (a1 : Int) (r1 : Option TBv) (r2 : Bool) (r3 : Bool) (w : World) (hr0_2 : Kd.C (Kd.int .i64) w A0_2 l0_2.length l0_2) (hc0_2 : l0_2.length ≤ c0_2) (h : l8table.f a0_0 a0_1 l0_2 a1 = some (r1, r2, r3)) :
  Calls Try.prog 27 #[.agg #[.int .i64 a0_0, .int .i64 a0_1, .slice A0_2 l0_2.length c0_2], .int .i64 a1] w fun e w' => ∃ b_ : Nat, e = .returned (.tuple #[tbW b_ r1, .bool r2, .bool r3]) ∧ Below w.heap.size w w' ∧ tbOk w' b_ r1 := by
 classical
 unfold l8table.f at h
 split at h
 ·rename_i hn
  have h' := Option.some.inj h
  simp only [Prod.mk.injEq] at h'
  obtain ⟨rfl, rfl, rfl⟩ := h'
  exact (table_done a0_0 a0_1 A0_2 c0_2 l0_2 a1 w hr0_2 hc0_2 hn).mono fun e w' ⟨h1, h2⟩ => ⟨0, h1, h2, trivial⟩
 split at h
 ·rename_i hT
  obtain ⟨hI, hb, hn⟩ := Classical.choose_spec hT
  have h' := Option.some.inj h
  simp only [Prod.mk.injEq] at h'
  obtain ⟨rfl, rfl, rfl⟩ := h'
  obtain ⟨T, hTe⟩ : ∃ T, Classical.choose hT = T := ⟨_, rfl⟩
  rw [hTe] at hI hb hn ⊢
  have hne : T.G.el a1 ≠ 0 := by rw [hb]; exact T.prim.ne
  have hw : dlog_New.f T.G a1 = some (some T, 0) := by
   unfold dlog_New.f
   rw [if_neg hne, dif_pos (by rw [hb]; exact T.prim)]
   obtain ⟨G, base, prim⟩ := T
   simp only at hb
   subst hb
   rfl
  have hs := refBase_ne hI a1 hne
  rw [if_pos (by unfold Pl.prB; exact decide_eq_true (by rw [hb]; exact T.prim))] at hs
  obtain ⟨kb, hkb⟩ := hs.rounds
  have hTb : T.G.num T.base = a1 := by rw [← hb, T.G.num_el, T.G.inn_of (Pl.el_ne.1 hne).1]
  exact (table_ok a0_0 a0_1 A0_2 c0_2 l0_2 a1 w hr0_2 hc0_2 kb T.G T hTb hn hw hkb).mono fun e w' ⟨b, h1, h2, h3⟩ => ⟨b, h1, h2, h3⟩
 split at h
 ·rename_i hG
  obtain ⟨G, hI, hn, hno⟩ := hG
  have h' := Option.some.inj h
  simp only [Prod.mk.injEq] at h'
  obtain ⟨rfl, rfl, rfl⟩ := h'
  obtain ⟨ki, hki⟩ := (Pl.isPrimitive_ev G 1).rounds
  obtain ⟨ko, hko⟩ := (Pl.is_order04 hI).rounds
  have hv : (decide (Cw.IsOrd (G.el 1) (G.q - 1)) == ((G.q : Int) == 2)) = true := by
   refine beq_iff_eq.2 ?_
   by_cases h2 : G.q = 2
   ·rw [decide_eq_true ((one_ord G).2 h2)]
    exact (beq_iff_eq.2 (by omega)).symm
   ·rw [decide_eq_false (fun h => h2 ((one_ord G).1 h))]
    exact (beq_eq_false_iff_ne.2 (by omega)).symm
  by_cases hx : G.el a1 = 0
  ·obtain ⟨kb, hkb⟩ := (refBase_zero hI a1 hx).rounds
   have hw : dlog_New.f G a1 = some (none, 7) := by unfold dlog_New.f; rw [if_pos hx]
   exact (table_bad7 a0_0 a0_1 A0_2 c0_2 l0_2 a1 w hr0_2 hc0_2 kb ki ko G hn hw hkb _ _ hki hko hv).mono fun e w' ⟨h1, h2⟩ => ⟨0, h1, h2, trivial⟩
  ·have hs := refBase_ne hI a1 hx
   rw [if_neg (by unfold Pl.prB; rw [decide_eq_true_iff]; exact hno)] at hs
   obtain ⟨kb, hkb⟩ := hs.rounds
   have hw : dlog_New.f G a1 = some (none, 5) := by unfold dlog_New.f; rw [if_neg hx, dif_neg hno]
   exact (table_bad5 a0_0 a0_1 A0_2 c0_2 l0_2 a1 w hr0_2 hc0_2 kb ki ko G hn hw hkb _ _ hki hko hv).mono fun e w' ⟨h1, h2⟩ => ⟨0, h1, h2, trivial⟩
 ·cases h
end
end Go.Proofs.Ytbohbfggmnjpdaa.Hand
end
-- LZ1
section
namespace Go.Proofs.Ytbohbfggmnjpdaa.P
noncomputable section
open Go.RowKit Go.Proofs.Ytbohbfggmnjpdaa.Hand Go.Proofs.YtbohbfggmnjpdaaW.PrintWords Go.Proofs.YtbohbfggmnjpdaaW.PrintLast Go.Proofs.YtbohbfggmnjpdaaW.PrintMore
set_option linter.unusedVariables false
set_option linter.unusedSimpArgs false
def l8DlogZech.j0 : Nat → TBv → Bool → Int → Int → List Int → Int → Int → Int → Option (Bool)
 | 0, _, _, _, _, _, _, _, _ => none
 | k + 1, x3, x45, x102000, x102001, x102002, x102003, x102004, x102005 => if x45 = true then (some false) else ((dlog_Table_Add.f x3 x102004 x102005).bind fun t110 => ((r4Add.f k x102000 x102001 x102002 x102004 x102005).bind fun t111 => (some (t110 == t111))))
def l8DlogZech.f (k : Nat) (a0_0 : Int) (a0_1 : Int) (l0_2 : List Int) (a0_3 : Int) (a0_4 : Int) (a0_5 : Int) : Option (Bool) := (l8table.f a0_0 a0_1 l0_2 a0_3).bind fun bt102 => (optE bt102.1 (if bt102.2.1 = true then (some bt102.2.2) else (none)) (fun q105 => (if bt102.2.1 = true then (some bt102.2.2) else ((dlog_Table_Zech.f q105 a0_4).bind fun bt106 => ((r8Zech.f k a0_0 a0_1 l0_2 a0_3 a0_4).bind fun bt108 => (if bt106.1 = bt108.1 then (l8DlogZech.j0 k q105 (bt106.2 != bt108.2) a0_0 a0_1 l0_2 a0_3 a0_4 a0_5) else (l8DlogZech.j0 k q105 true a0_0 a0_1 l0_2 a0_3 a0_4 a0_5)))))))
def l8DlogZech.T8 : Bool × List (List Nat × List Nat) := (true, [([], []), ([], []), ([1], [1]), ([], []), ([3], [3]), ([0, 2, 4], [0, 2, 4]), ([], []), ([6], [6]), ([], []), ([8], [8]), ([], []), ([10], [10]), ([7, 9, 11, 5], [7, 9, 11]), ([5, 12], [5, 12]), ([13, 12, 0, 1, 2, 3, 4, 5, 6, 7, 8, 9, 10, 11, 12, 13], [13])])
def l8DlogZech.B8 : List Nat := [0, 0, 2, 0, 8, 31, 0, 64, 0, 256, 0, 1024, 4095, 8191, 16383]
theorem l8DlogZech.tab8 : rtab .any (opsOf Try.f12 8) = l8DlogZech.T8 := by kernel_rfl
theorem l8DlogZech.bits8 : waitsOk l8DlogZech.T8.2 l8DlogZech.B8 = true := by kernel_rfl
set_option maxHeartbeats 8000000 in
set_option maxRecDepth 100000 in
theorem l8DlogZech.calls (k : Nat) (a0_0 : Int) (a0_1 : Int) (A0_2 : Option Addr) (c0_2 : Nat) (l0_2 : List Int) (a0_3 : Int) (a0_4 : Int) (a0_5 : Int) (r : Bool) (w : World) (hr0_2 : Kd.C (Kd.int .i64) w A0_2 l0_2.length l0_2) (hc0_2 : l0_2.length ≤ c0_2) (h : l8DlogZech.f k a0_0 a0_1 l0_2 a0_3 a0_4 a0_5 = some r) :
  Calls Try.prog 12 #[.agg #[.int .i64 a0_0, .int .i64 a0_1, .slice A0_2 l0_2.length c0_2, .int .i64 a0_3, .int .i64 a0_4, .int .i64 a0_5]] w fun e w' => e = .returned (.bool r) ∧ Below w.heap.size w w' := by
 have hu51 := Try.underlying51
 have hu24 := Try.underlying24
 have HR0_2 := Q9a.mk hr0_2
 have HC0_2 := Q9a.mk hc0_2
 clear hr0_2 hc0_2
 have HB := Q9a.mk (Below.refl w.heap.size w)
 have H : ((l8table.f a0_0 a0_1 l0_2 a0_3).bind fun bt102 => (optE bt102.1 (if bt102.2.1 = true then (some bt102.2.2) else (none)) (fun q105 => (if bt102.2.1 = true then (some bt102.2.2) else ((dlog_Table_Zech.f q105 a0_4).bind fun bt106 => ((r8Zech.f k a0_0 a0_1 l0_2 a0_3 a0_4).bind fun bt108 => (if bt106.1 = bt108.1 then (l8DlogZech.j0 k q105 (bt106.2 != bt108.2) a0_0 a0_1 l0_2 a0_3 a0_4 a0_5) else (l8DlogZech.j0 k q105 true a0_0 a0_1 l0_2 a0_3 a0_4 a0_5)))))))) = some r := h
 clear h
 replace H := Option.bind_eq_some_iff.mp H
 obtain ⟨⟨t102, t103, t104⟩, A20, H⟩ := H
 replace H : (optE t102 (if t103 = true then (some t104) else (none)) (fun q105 => (if t103 = true then (some t104) else ((dlog_Table_Zech.f q105 a0_4).bind fun bt106 => ((r8Zech.f k a0_0 a0_1 l0_2 a0_3 a0_4).bind fun bt108 => (if bt106.1 = bt108.1 then (l8DlogZech.j0 k q105 (bt106.2 != bt108.2) a0_0 a0_1 l0_2 a0_3 a0_4 a0_5) else (l8DlogZech.j0 k q105 true a0_0 a0_1 l0_2 a0_3 a0_4 a0_5))))))) = some r := H
 have A2 := Q9a.mk A20
 clear A20
 rcases t102 with _ | q105
 ·have H1 : (if t103 = true then (some t104) else (none)) = some r := H
  clear H
  have H := H1
  clear H1
  by_cases c3 : t103 = true
  ·subst c3
   have H1 : (some t104) = some r := by rw [if_pos rfl] at H; exact H
   clear H
   have H := H1
   clear H1
   obtain rfl := Option.some.inj H
   go_enter Try.func12, Try.ntmps12
   go_wp2_with (first | ((with_reducible refine gate_dst (N := 1) rfl ?_); refine box_event ?hg (N := 1) ?hd (cs := #[.int .i64 a0_0, .int .i64 a0_1, .slice A0_2 l0_2.length c0_2, .int .i64 a0_3, .int .i64 a0_4, .int .i64 a0_5]) (t := 51) ?hr ?_; (case hd => rfl); (case hg => rfl); (case hr => first | (go_simp; done) | (go_simp; rfl)); intro gb101 hg w4 hbox hb; have n0_ := Q9a.mk (bP (by repeat (first | (with_reducible first | exact HB.out | apply bA | apply bN | apply bD) | exact HB.out)) hb); have n1_ := Q9a.mk (hbox); have n2_ := Q9a.mk ((by rw [hg]; exact (bZ (by repeat (first | (with_reducible first | exact HB.out | apply bA | apply bN | apply bD) | exact HB.out))) : w.heap.size ≤ gb101)); have n3_ := Q9a.mk ((by rw [hg]; exact (bZ (by repeat (first | (with_reducible first | exact HB.out | apply bA | apply bN | apply bD) | exact HB.out))) : w.heap.size ≤ gb101)); clear HB; have HB := n0_; have BK101 := n1_; have GW101 := n2_; have GE101 := n3_; clear n0_ n1_ n2_ n3_; clear hb hbox hg; have hcz5_0 : w4.cell? ⟨gb101, 0, none⟩ = some (.int .i64 a0_0) := (kC BK101.out 0).trans rfl; have hcz5_1 : w4.cell? ⟨gb101, 1, none⟩ = some (.int .i64 a0_1) := (kC BK101.out 1).trans rfl; have hcz5_2 : w4.cell? ⟨gb101, 2, none⟩ = some (.slice A0_2 l0_2.length c0_2) := (kC BK101.out 2).trans rfl; have hcz5_3 : w4.cell? ⟨gb101, 3, none⟩ = some (.int .i64 a0_3) := (kC BK101.out 3).trans rfl; have hcz5_4 : w4.cell? ⟨gb101, 4, none⟩ = some (.int .i64 a0_4) := (kC BK101.out 4).trans rfl; have hcz5_5 : w4.cell? ⟨gb101, 5, none⟩ = some (.int .i64 a0_5) := (kC BK101.out 5).trans rfl; have hfz5_0 := kF BK101.out 0; have hfz5_1 := kF BK101.out 1; have hfz5_2 := kF BK101.out 2; have hfz5_3 := kF BK101.out 3; have hfz5_4 := kF BK101.out 4; have hfz5_5 := kF BK101.out 5) | ((with_reducible refine gate_callee (f := 27) rfl ?_); refine goesL_ (some 15) rfl rfl Try.func27 (by kernel_rfl) rfl #[.agg #[.int .i64 a0_0, .int .i64 a0_1, .slice A0_2 l0_2.length c0_2], .int .i64 a0_3] rfl (by (try simp only [List.map_toArray, List.map_cons, List.map_nil]); first | done | rfl | (simp only [List.length_drop, List.length_take]; rfl)) ?_; (with_reducible refine (l8table.calls a0_0 a0_1 _ _ l0_2 a0_3 none true t104 _ ?side1 ?side2 A2.out).mono ?_); (case side1 => repeat (first | exact (Kd.C_below HR0_2.out HB.out) | (with_reducible refine Kd.C_alloc ?_ _) | (with_reducible refine Kd.C_drewN ?_ _) | (with_reducible refine Kd.C_drew ?_))); (case side2 => exact HC0_2.out); rintro e w6 ⟨b_, rfl, hb, hgo⟩; refine ⟨_, rfl, ?_⟩; have n0_ := Q9a.mk (kB (g := gb101) (o := .cells #[.int .i64 a0_0, .int .i64 a0_1, .slice A0_2 l0_2.length c0_2, .int .i64 a0_3, .int .i64 a0_4, .int .i64 a0_5] 51 (0, 0)) (by (with_reducible repeat (first | refine kN ?_ _ | refine kD ?_ | refine kA ?_ _)); exact BK101.out) hb); have n1_ := Q9a.mk (bP (by repeat (first | (with_reducible first | exact HB.out | apply bA | apply bN | apply bD | refine bS ?_ GE101.out) | exact HB.out)) hb); clear BK101; clear HB; have BK101 := n0_; have HB := n1_; clear n0_ n1_; (try clear hb); (try clear hb2); (try clear hk); (try clear hi); (try simp only [tbW_none, tbW_some])))
   go_ret
   exact ⟨by first | rfl | (simp [eN, eS] <;> rfl) | (simp [*, eN, eS] <;> rfl), by repeat (first | (with_reducible first | exact HB.out | apply bA | apply bN | apply bD | refine bS ?_ GE101.out) | exact HB.out)⟩
  ·replace c3 := Bool.eq_false_iff.mpr c3
   subst c3
   have H1 : (none) = some r := by rw [if_neg (show ¬ (false = true) by decide)] at H; exact H
   clear H
   have H := H1
   clear H1
   exact absurd H (by simp)
 ·have H1 : (if t103 = true then (some t104) else ((dlog_Table_Zech.f q105 a0_4).bind fun bt106 => ((r8Zech.f k a0_0 a0_1 l0_2 a0_3 a0_4).bind fun bt108 => (if bt106.1 = bt108.1 then (l8DlogZech.j0 k q105 (bt106.2 != bt108.2) a0_0 a0_1 l0_2 a0_3 a0_4 a0_5) else (l8DlogZech.j0 k q105 true a0_0 a0_1 l0_2 a0_3 a0_4 a0_5))))) = some r := H
  clear H
  have H := H1
  clear H1
  by_cases c7 : t103 = true
  ·subst c7
   have H1 : (some t104) = some r := by rw [if_pos rfl] at H; exact H
   clear H
   have H := H1
   clear H1
   obtain rfl := Option.some.inj H
   go_enter Try.func12, Try.ntmps12
   go_wp2_with (first | ((with_reducible refine gate_dst (N := 1) rfl ?_); refine box_event ?hg (N := 1) ?hd (cs := #[.int .i64 a0_0, .int .i64 a0_1, .slice A0_2 l0_2.length c0_2, .int .i64 a0_3, .int .i64 a0_4, .int .i64 a0_5]) (t := 51) ?hr ?_; (case hd => rfl); (case hg => rfl); (case hr => first | (go_simp; done) | (go_simp; rfl)); intro gb101 hg w8 hbox hb; have n0_ := Q9a.mk (bP (by repeat (first | (with_reducible first | exact HB.out | apply bA | apply bN | apply bD) | exact HB.out)) hb); have n1_ := Q9a.mk (hbox); have n2_ := Q9a.mk ((by rw [hg]; exact (bZ (by repeat (first | (with_reducible first | exact HB.out | apply bA | apply bN | apply bD) | exact HB.out))) : w.heap.size ≤ gb101)); have n3_ := Q9a.mk ((by rw [hg]; exact (bZ (by repeat (first | (with_reducible first | exact HB.out | apply bA | apply bN | apply bD) | exact HB.out))) : w.heap.size ≤ gb101)); clear HB; have HB := n0_; have BK101 := n1_; have GW101 := n2_; have GE101 := n3_; clear n0_ n1_ n2_ n3_; clear hb hbox hg; have hcz9_0 : w8.cell? ⟨gb101, 0, none⟩ = some (.int .i64 a0_0) := (kC BK101.out 0).trans rfl; have hcz9_1 : w8.cell? ⟨gb101, 1, none⟩ = some (.int .i64 a0_1) := (kC BK101.out 1).trans rfl; have hcz9_2 : w8.cell? ⟨gb101, 2, none⟩ = some (.slice A0_2 l0_2.length c0_2) := (kC BK101.out 2).trans rfl; have hcz9_3 : w8.cell? ⟨gb101, 3, none⟩ = some (.int .i64 a0_3) := (kC BK101.out 3).trans rfl; have hcz9_4 : w8.cell? ⟨gb101, 4, none⟩ = some (.int .i64 a0_4) := (kC BK101.out 4).trans rfl; have hcz9_5 : w8.cell? ⟨gb101, 5, none⟩ = some (.int .i64 a0_5) := (kC BK101.out 5).trans rfl; have hfz9_0 := kF BK101.out 0; have hfz9_1 := kF BK101.out 1; have hfz9_2 := kF BK101.out 2; have hfz9_3 := kF BK101.out 3; have hfz9_4 := kF BK101.out 4; have hfz9_5 := kF BK101.out 5) | ((with_reducible refine gate_callee (f := 27) rfl ?_); refine goesL_ (some 15) rfl rfl Try.func27 (by kernel_rfl) rfl #[.agg #[.int .i64 a0_0, .int .i64 a0_1, .slice A0_2 l0_2.length c0_2], .int .i64 a0_3] rfl (by (try simp only [List.map_toArray, List.map_cons, List.map_nil]); first | done | rfl | (simp only [List.length_drop, List.length_take]; rfl)) ?_; (with_reducible refine (l8table.calls a0_0 a0_1 _ _ l0_2 a0_3 (some q105) true t104 _ ?side1 ?side2 A2.out).mono ?_); (case side1 => repeat (first | exact (Kd.C_below HR0_2.out HB.out) | (with_reducible refine Kd.C_alloc ?_ _) | (with_reducible refine Kd.C_drewN ?_ _) | (with_reducible refine Kd.C_drew ?_))); (case side2 => exact HC0_2.out); rintro e w10 ⟨b_q105, rfl, hb, hgo⟩; refine ⟨_, rfl, ?_⟩; have n0_ := Q9a.mk (kB (g := gb101) (o := .cells #[.int .i64 a0_0, .int .i64 a0_1, .slice A0_2 l0_2.length c0_2, .int .i64 a0_3, .int .i64 a0_4, .int .i64 a0_5] 51 (0, 0)) (by (with_reducible repeat (first | refine kN ?_ _ | refine kD ?_ | refine kA ?_ _)); exact BK101.out) hb); have n1_ := Q9a.mk (bP (by repeat (first | (with_reducible first | exact HB.out | apply bA | apply bN | apply bD | refine bS ?_ GE101.out) | exact HB.out)) hb); clear BK101; clear HB; have BK101 := n0_; have HB := n1_; clear n0_ n1_; (try clear hb); (try clear hb2); (try clear hk); (try clear hi); (try simp only [tbW_none, tbW_some]); have HBZ := HB; have HRn_ := Q9a.mk (Kd.C_below HR0_2.out HB.out); clear HR0_2; have HR0_2 := HRn_; clear HRn_; clear HB; obtain ⟨wz, rfl⟩ : ∃ z_ : World, z_ = w := ⟨_, rfl⟩; obtain ⟨w, rfl⟩ : ∃ z_ : World, z_ = w10 := ⟨_, rfl⟩; have HB := Q9a.mk (Below.refl w.heap.size w); have HG_q105 := Q9a.mk (hgo : TBok w b_q105 q105); clear hgo))
   go_ret
   exact ⟨by first | rfl | (simp [eN, eS] <;> rfl) | (simp [*, eN, eS] <;> rfl), belowZ HBZ.out (by repeat (first | (with_reducible first | exact HB.out | apply bA | apply bN | apply bD | refine bS ?_ GE101.out) | exact HB.out))⟩
  ·replace c7 := Bool.eq_false_iff.mpr c7
   subst c7
   have H1 : ((dlog_Table_Zech.f q105 a0_4).bind fun bt106 => ((r8Zech.f k a0_0 a0_1 l0_2 a0_3 a0_4).bind fun bt108 => (if bt106.1 = bt108.1 then (l8DlogZech.j0 k q105 (bt106.2 != bt108.2) a0_0 a0_1 l0_2 a0_3 a0_4 a0_5) else (l8DlogZech.j0 k q105 true a0_0 a0_1 l0_2 a0_3 a0_4 a0_5)))) = some r := by rw [if_neg (show ¬ (false = true) by decide)] at H; exact H
   clear H
   have H := H1
   clear H1
   replace H := Option.bind_eq_some_iff.mp H
   obtain ⟨⟨t106, t107⟩, A110, H⟩ := H
   replace H : ((r8Zech.f k a0_0 a0_1 l0_2 a0_3 a0_4).bind fun bt108 => (if t106 = bt108.1 then (l8DlogZech.j0 k q105 (t107 != bt108.2) a0_0 a0_1 l0_2 a0_3 a0_4 a0_5) else (l8DlogZech.j0 k q105 true a0_0 a0_1 l0_2 a0_3 a0_4 a0_5))) = some r := H
   have A11 := Q9a.mk A110
   clear A110
   replace H := Option.bind_eq_some_iff.mp H
   obtain ⟨⟨t108, t109⟩, A120, H⟩ := H
   replace H : (if t106 = t108 then (l8DlogZech.j0 k q105 (t107 != t109) a0_0 a0_1 l0_2 a0_3 a0_4 a0_5) else (l8DlogZech.j0 k q105 true a0_0 a0_1 l0_2 a0_3 a0_4 a0_5)) = some r := H
   have A12 := Q9a.mk A120
   clear A120
   have HC13 := Q9a.mk H
   clear H
   go_enter Try.func12, Try.ntmps12
   go_upto_region 6 with (first | ((with_reducible refine gate_dst (N := 1) rfl ?_); refine box_event ?hg (N := 1) ?hd (cs := #[.int .i64 a0_0, .int .i64 a0_1, .slice A0_2 l0_2.length c0_2, .int .i64 a0_3, .int .i64 a0_4, .int .i64 a0_5]) (t := 51) ?hr ?_; (case hd => rfl); (case hg => rfl); (case hr => first | (go_simp; done) | (go_simp; rfl)); intro gb101 hg w14 hbox hb; have n0_ := Q9a.mk (bP (by repeat (first | (with_reducible first | exact HB.out | apply bA | apply bN | apply bD) | exact HB.out)) hb); have n1_ := Q9a.mk (hbox); have n2_ := Q9a.mk ((by rw [hg]; exact (bZ (by repeat (first | (with_reducible first | exact HB.out | apply bA | apply bN | apply bD) | exact HB.out))) : w.heap.size ≤ gb101)); have n3_ := Q9a.mk ((by rw [hg]; exact (bZ (by repeat (first | (with_reducible first | exact HB.out | apply bA | apply bN | apply bD) | exact HB.out))) : w.heap.size ≤ gb101)); clear HB; have HB := n0_; have BK101 := n1_; have GW101 := n2_; have GE101 := n3_; clear n0_ n1_ n2_ n3_; clear hb hbox hg; have hcz15_0 : w14.cell? ⟨gb101, 0, none⟩ = some (.int .i64 a0_0) := (kC BK101.out 0).trans rfl; have hcz15_1 : w14.cell? ⟨gb101, 1, none⟩ = some (.int .i64 a0_1) := (kC BK101.out 1).trans rfl; have hcz15_2 : w14.cell? ⟨gb101, 2, none⟩ = some (.slice A0_2 l0_2.length c0_2) := (kC BK101.out 2).trans rfl; have hcz15_3 : w14.cell? ⟨gb101, 3, none⟩ = some (.int .i64 a0_3) := (kC BK101.out 3).trans rfl; have hcz15_4 : w14.cell? ⟨gb101, 4, none⟩ = some (.int .i64 a0_4) := (kC BK101.out 4).trans rfl; have hcz15_5 : w14.cell? ⟨gb101, 5, none⟩ = some (.int .i64 a0_5) := (kC BK101.out 5).trans rfl; have hfz15_0 := kF BK101.out 0; have hfz15_1 := kF BK101.out 1; have hfz15_2 := kF BK101.out 2; have hfz15_3 := kF BK101.out 3; have hfz15_4 := kF BK101.out 4; have hfz15_5 := kF BK101.out 5) | ((with_reducible refine gate_callee (f := 27) rfl ?_); refine goesL_ (some 15) rfl rfl Try.func27 (by kernel_rfl) rfl #[.agg #[.int .i64 a0_0, .int .i64 a0_1, .slice A0_2 l0_2.length c0_2], .int .i64 a0_3] rfl (by (try simp only [List.map_toArray, List.map_cons, List.map_nil]); first | done | rfl | (simp only [List.length_drop, List.length_take]; rfl)) ?_; (with_reducible refine (l8table.calls a0_0 a0_1 _ _ l0_2 a0_3 (some q105) false t104 _ ?side1 ?side2 A2.out).mono ?_); (case side1 => repeat (first | exact (Kd.C_below HR0_2.out HB.out) | (with_reducible refine Kd.C_alloc ?_ _) | (with_reducible refine Kd.C_drewN ?_ _) | (with_reducible refine Kd.C_drew ?_))); (case side2 => exact HC0_2.out); rintro e w16 ⟨b_q105, rfl, hb, hgo⟩; refine ⟨_, rfl, ?_⟩; have n0_ := Q9a.mk (kB (g := gb101) (o := .cells #[.int .i64 a0_0, .int .i64 a0_1, .slice A0_2 l0_2.length c0_2, .int .i64 a0_3, .int .i64 a0_4, .int .i64 a0_5] 51 (0, 0)) (by (with_reducible repeat (first | refine kN ?_ _ | refine kD ?_ | refine kA ?_ _)); exact BK101.out) hb); have n1_ := Q9a.mk (bP (by repeat (first | (with_reducible first | exact HB.out | apply bA | apply bN | apply bD | refine bS ?_ GE101.out) | exact HB.out)) hb); clear BK101; clear HB; have BK101 := n0_; have HB := n1_; clear n0_ n1_; (try clear hb); (try clear hb2); (try clear hk); (try clear hi); (try simp only [tbW_none, tbW_some]); have HBZ := HB; have HRn_ := Q9a.mk (Kd.C_below HR0_2.out HB.out); clear HR0_2; have HR0_2 := HRn_; clear HRn_; clear HB; obtain ⟨wz, rfl⟩ : ∃ z_ : World, z_ = w := ⟨_, rfl⟩; obtain ⟨w, rfl⟩ : ∃ z_ : World, z_ = w16 := ⟨_, rfl⟩; have HB := Q9a.mk (Below.refl w.heap.size w); have HG_q105 := Q9a.mk (hgo : TBok w b_q105 q105); clear hgo; have hcz17_0 : w.cell? ⟨gb101, 0, none⟩ = some (.int .i64 a0_0) := (kC BK101.out 0).trans rfl; have hcz17_1 : w.cell? ⟨gb101, 1, none⟩ = some (.int .i64 a0_1) := (kC BK101.out 1).trans rfl; have hcz17_2 : w.cell? ⟨gb101, 2, none⟩ = some (.slice A0_2 l0_2.length c0_2) := (kC BK101.out 2).trans rfl; have hcz17_3 : w.cell? ⟨gb101, 3, none⟩ = some (.int .i64 a0_3) := (kC BK101.out 3).trans rfl; have hcz17_4 : w.cell? ⟨gb101, 4, none⟩ = some (.int .i64 a0_4) := (kC BK101.out 4).trans rfl; have hcz17_5 : w.cell? ⟨gb101, 5, none⟩ = some (.int .i64 a0_5) := (kC BK101.out 5).trans rfl; have hfz17_0 := kF BK101.out 0; have hfz17_1 := kF BK101.out 1; have hfz17_2 := kF BK101.out 2; have hfz17_3 := kF BK101.out 3; have hfz17_4 := kF BK101.out 4; have hfz17_5 := kF BK101.out 5) | ((with_reducible refine gate_callee (f := 34) rfl ?_); refine goesL_ (some 25) rfl rfl Try.func34 (by kernel_rfl) rfl #[.pointer (some ⟨b_q105, 0, none⟩), .int .i64 a0_4] rfl (by (try simp only [List.map_toArray, List.map_cons, List.map_nil]); first | done | rfl | (simp only [List.length_drop, List.length_take]; rfl)) ?_; (with_reducible refine (dlog_Table_Zech.calls b_q105 q105 a0_4 t106 t107 _ ?side1 A11.out).mono ?_); (case side1 => exact TBok.belowT HG_q105.out (by repeat (first | (with_reducible first | exact HB.out | apply bA | apply bN | apply bD | refine bS ?_ GE101.out) | exact HB.out))); rintro e w18 ⟨rfl, hb⟩; refine ⟨_, rfl, ?_⟩; have n0_ := Q9a.mk (kB (g := gb101) (o := .cells #[.int .i64 a0_0, .int .i64 a0_1, .slice A0_2 l0_2.length c0_2, .int .i64 a0_3, .int .i64 a0_4, .int .i64 a0_5] 51 (0, 0)) (by (with_reducible repeat (first | refine kN ?_ _ | refine kD ?_ | refine kA ?_ _)); exact BK101.out) hb); have n1_ := Q9a.mk (bP (by repeat (first | (with_reducible first | exact HB.out | apply bA | apply bN | apply bD | refine bS ?_ GE101.out) | exact HB.out)) hb); clear BK101; clear HB; have BK101 := n0_; have HB := n1_; clear n0_ n1_; (try clear hb); (try clear hb2); (try clear hk); (try clear hi); have hcz19_0 : w18.cell? ⟨gb101, 0, none⟩ = some (.int .i64 a0_0) := (kC BK101.out 0).trans rfl; have hcz19_1 : w18.cell? ⟨gb101, 1, none⟩ = some (.int .i64 a0_1) := (kC BK101.out 1).trans rfl; have hcz19_2 : w18.cell? ⟨gb101, 2, none⟩ = some (.slice A0_2 l0_2.length c0_2) := (kC BK101.out 2).trans rfl; have hcz19_3 : w18.cell? ⟨gb101, 3, none⟩ = some (.int .i64 a0_3) := (kC BK101.out 3).trans rfl; have hcz19_4 : w18.cell? ⟨gb101, 4, none⟩ = some (.int .i64 a0_4) := (kC BK101.out 4).trans rfl; have hcz19_5 : w18.cell? ⟨gb101, 5, none⟩ = some (.int .i64 a0_5) := (kC BK101.out 5).trans rfl; have hfz19_0 := kF BK101.out 0; have hfz19_1 := kF BK101.out 1; have hfz19_2 := kF BK101.out 2; have hfz19_3 := kF BK101.out 3; have hfz19_4 := kF BK101.out 4; have hfz19_5 := kF BK101.out 5) | ((with_reducible refine gate_callee (f := 35) rfl ?_); refine goesL_ (some 35) rfl rfl Try.func35 (by kernel_rfl) rfl #[.agg #[.int .i64 a0_0, .int .i64 a0_1, .slice A0_2 l0_2.length c0_2], .int .i64 a0_3, .int .i64 a0_4] rfl (by (try simp only [List.map_toArray, List.map_cons, List.map_nil]); first | done | rfl | (simp only [List.length_drop, List.length_take]; rfl)) ?_; (with_reducible refine (r8Zech.calls k a0_0 a0_1 _ _ l0_2 a0_3 a0_4 t108 t109 _ ?side1 ?side2 A12.out).mono ?_); (case side1 => repeat (first | exact (Kd.C_below HR0_2.out HB.out) | (with_reducible refine Kd.C_alloc ?_ _) | (with_reducible refine Kd.C_drewN ?_ _) | (with_reducible refine Kd.C_drew ?_))); (case side2 => exact HC0_2.out); rintro e w20 ⟨rfl, hb⟩; refine ⟨_, rfl, ?_⟩; have n0_ := Q9a.mk (kB (g := gb101) (o := .cells #[.int .i64 a0_0, .int .i64 a0_1, .slice A0_2 l0_2.length c0_2, .int .i64 a0_3, .int .i64 a0_4, .int .i64 a0_5] 51 (0, 0)) (by (with_reducible repeat (first | refine kN ?_ _ | refine kD ?_ | refine kA ?_ _)); exact BK101.out) hb); have n1_ := Q9a.mk (bP (by repeat (first | (with_reducible first | exact HB.out | apply bA | apply bN | apply bD | refine bS ?_ GE101.out) | exact HB.out)) hb); clear BK101; clear HB; have BK101 := n0_; have HB := n1_; clear n0_ n1_; (try clear hb); (try clear hb2); (try clear hk); (try clear hi)))
   (try simp only [Act.put, sz1, sz2, sz3])
   go_cut [45] (fun v45 wc => ∃ (kq : Nat) (x45_12 : Bool), v45 = .bool x45_12 ∧ Q9a (l8DlogZech.j0 kq q105 x45_12 a0_0 a0_1 l0_2 a0_3 a0_4 a0_5 = some r) ∧ Q9a (kq ≤ k) ∧ Q9a (wc.heap[gb101]? = some (.cells #[.int .i64 a0_0, .int .i64 a0_1, (.slice A0_2 l0_2.length c0_2), .int .i64 a0_3, .int .i64 a0_4, .int .i64 a0_5] 51 (0, 0))) ∧ Q9a (Below w.heap.size w wc))
   case first =>
    have H := HC13.out
    clear HC13
    by_cases c21 : t106 = t108
    ·rw [if_pos c21] at H
     have c21b0 : (t106 == t108) = true := beq_iff_eq.mpr c21
     have c21b1 : (t106 != t108) = false := bne_eq_false_iff_eq.mpr c21
     clear c21
     (first | rw [c21b0] | (simp only [i64_w, i32_w]; rw [c21b0]) | skip)
     have H' := Q9a.mk H
     clear H
     go_wp2
     go_meet
     case rel => exact ⟨_, ((t107 != t109)), (by first | rfl | (simp; done) | (simp [*]; done)), H', ⟨by first | omega | exact Nat.le_refl _⟩, ⟨by (with_reducible repeat (first | refine kN ?_ _ | refine kD ?_ | refine kA ?_ _)); exact BK101.out⟩, ⟨by repeat (first | (with_reducible first | exact HB.out | apply bA | apply bN | apply bD | refine bS ?_ GE101.out) | exact HB.out)⟩⟩
    ·rw [if_neg c21] at H
     have c21b0 : (t106 == t108) = false := beq_eq_false_iff_ne.mpr c21
     have c21b1 : (t106 != t108) = true := bne_iff_ne.mpr c21
     (first | rw [c21b0] | (simp only [i64_w, i32_w]; rw [c21b0]) | skip)
     have H' := Q9a.mk H
     clear H
     go_wp2
     go_meet
     case rel => exact ⟨_, (true), (by first | rfl | (simp; done) | (simp [*]; done)), H', ⟨by first | omega | exact Nat.le_refl _⟩, ⟨by (with_reducible repeat (first | refine kN ?_ _ | refine kD ?_ | refine kA ?_ _)); exact BK101.out⟩, ⟨by repeat (first | (with_reducible first | exact HB.out | apply bA | apply bN | apply bD | refine bS ?_ GE101.out) | exact HB.out)⟩⟩
   case rest =>
    clear HC13
    try clear c1
    try clear q1
    try clear c2
    try clear p2
    try clear c3
    try clear c7
    try clear q10
    try clear c12
    try clear c21
    try clear c21b0
    try clear c21b1
    try clear hcz15_0
    try clear hcz15_1
    try clear hcz15_2
    try clear hcz15_3
    try clear hcz15_4
    try clear hcz15_5
    try clear hcz17_0
    try clear hcz17_1
    try clear hcz17_2
    try clear hcz17_3
    try clear hcz17_4
    try clear hcz17_5
    try clear hcz19_0
    try clear hcz19_1
    try clear hcz19_2
    try clear hcz19_3
    try clear hcz19_4
    try clear hcz19_5
    try clear hcz5_0
    try clear hcz5_1
    try clear hcz5_2
    try clear hcz5_3
    try clear hcz5_4
    try clear hcz5_5
    try clear hcz9_0
    try clear hcz9_1
    try clear hcz9_2
    try clear hcz9_3
    try clear hcz9_4
    try clear hcz9_5
    try clear hfz15_0
    try clear hfz15_1
    try clear hfz15_2
    try clear hfz15_3
    try clear hfz15_4
    try clear hfz15_5
    try clear hfz17_0
    try clear hfz17_1
    try clear hfz17_2
    try clear hfz17_3
    try clear hfz17_4
    try clear hfz17_5
    try clear hfz19_0
    try clear hfz19_1
    try clear hfz19_2
    try clear hfz19_3
    try clear hfz19_4
    try clear hfz19_5
    try clear hfz5_0
    try clear hfz5_1
    try clear hfz5_2
    try clear hfz5_3
    try clear hfz5_4
    try clear hfz5_5
    try clear hfz9_0
    try clear hfz9_1
    try clear hfz9_2
    try clear hfz9_3
    try clear hfz9_4
    try clear hfz9_5
    try clear q105
    obtain ⟨kq, x45_12, rfl, HA, HJ12, BK101, HB⟩ := hcut
    cases kq with
    | zero => exact absurd HA.out (by simp [l8DlogZech.j0])
    | succ kj12 =>
     have H := HA.out
     clear HA
     simp only [l8DlogZech.j0] at H
     by_cases c22 : x45_12 = true
     ·subst c22
      have H1 : (some false) = some r := by rw [if_pos rfl] at H; exact H
      clear H
      have H := H1
      clear H1
      obtain rfl := Option.some.inj H
      go_wp2
      go_ret
      exact ⟨by first | rfl | (simp [eN, eS] <;> rfl) | (simp [*, eN, eS] <;> rfl), belowZ HBZ.out (by repeat (first | (with_reducible first | exact HB.out | apply bA | apply bN | apply bD | refine bS ?_ GE101.out) | exact HB.out))⟩
     ·replace c22 := Bool.eq_false_iff.mpr c22
      subst c22
      have H1 : ((dlog_Table_Add.f q105 a0_4 a0_5).bind fun t110 => ((r4Add.f kj12 a0_0 a0_1 l0_2 a0_4 a0_5).bind fun t111 => (some (t110 == t111)))) = some r := by rw [if_neg (show ¬ (false = true) by decide)] at H; exact H
      clear H
      have H := H1
      clear H1
      replace H := Option.bind_eq_some_iff.mp H
      obtain ⟨t110, A230, H⟩ := H
      replace H : ((r4Add.f kj12 a0_0 a0_1 l0_2 a0_4 a0_5).bind fun t111 => (some (t110 == t111))) = some r := H
      have A23 := Q9a.mk A230
      clear A230
      replace H := Option.bind_eq_some_iff.mp H
      obtain ⟨t111, A240, H⟩ := H
      replace H : (some (t110 == t111)) = some r := H
      have A24 := Q9a.mk A240
      clear A240
      obtain rfl := Option.some.inj H
      try go_wp2
      have n0_ := Q9a.mk (kD BK101.out)
      have n1_ := Q9a.mk (bD HB.out)
      clear BK101
      clear HB
      have BK101 := n0_
      have HB := n1_
      clear n0_ n1_
      refine start_ (n := 15) (S := fun w' => w'.cell? ⟨gb101, 0, none⟩ = some (.int .i64 a0_0) ∧ w'.cell? ⟨gb101, 1, none⟩ = some (.int .i64 a0_1) ∧ w'.cell? ⟨gb101, 2, none⟩ = some (.slice A0_2 l0_2.length c0_2) ∧ w'.cell? ⟨gb101, 3, none⟩ = some (.int .i64 a0_3) ∧ w'.cell? ⟨gb101, 4, none⟩ = some (.int .i64 a0_4) ∧ w'.cell? ⟨gb101, 5, none⟩ = some (.int .i64 a0_5)) (ds := []) #[false, false, false, false, false, false, false, false, false, false, false, false, false, false, false] (by kernel_rfl) rfl rfl ⟨(kC BK101.out 0).trans rfl, (kC BK101.out 1).trans rfl, (kC BK101.out 2).trans rfl, (kC BK101.out 3).trans rfl, (kC BK101.out 4).trans rfl, (kC BK101.out 5).trans rfl⟩ (fun hHeld => ?_); refine with_tabW l8DlogZech.tab8 l8DlogZech.bits8 (fun HT_ HW_ => ?_)
      generalize wc.drew = w25 at BK101 HB hHeld ⊢
      refine pure_ (i := 0) (N := some 46) (v := ?_) (a' := ?_) #[true, false, false, false, false, false, false, false, false, false, false, false, false, false, false] rfl rfl (any_of HT_.out (by kernel_rfl)) (fun _ _ _ h => h) (Or.inl ⟨by rfl, ?_⟩) ?_ ?_
      rotate_left
      ·intro w'
       go_simp
       with_reducible rfl
      rotate_left
      ·simp only [Act.put, sz1, sz2, sz3, i64_w, i32_w]
       rfl
      refine pure_ (i := 1) (N := some 47) (v := ?_) (a' := ?_) #[true, true, false, false, false, false, false, false, false, false, false, false, false, false, false] rfl rfl (any_of HT_.out (by kernel_rfl)) (fun _ _ _ h => h) (Or.inl ⟨by rfl, ?_⟩) ?_ ?_
      rotate_left
      ·intro w'
       go_simp
       with_reducible rfl
      rotate_left
      ·simp only [Act.put, sz1, sz2, sz3, i64_w, i32_w]
       rfl
      refine pure_ (i := 3) (N := some 49) (v := ?_) (a' := ?_) #[true, true, false, true, false, false, false, false, false, false, false, false, false, false, false] rfl rfl (any_of HT_.out (by kernel_rfl)) (fun _ _ _ h => h) (Or.inl ⟨by rfl, ?_⟩) ?_ ?_
      rotate_left
      ·intro w'
       go_simp
       with_reducible rfl
      rotate_left
      ·simp only [Act.put, sz1, sz2, sz3, i64_w, i32_w]
       rfl
      refine pure_ (i := 6) (N := some 52) (v := ?_) (a' := ?_) #[true, true, false, true, false, false, true, false, false, false, false, false, false, false, false] rfl rfl (any_of HT_.out (by kernel_rfl)) (fun _ _ _ h => h) (Or.inl ⟨by rfl, ?_⟩) ?_ ?_
      rotate_left
      ·intro w'
       go_simp
       with_reducible rfl
      rotate_left
      ·simp only [Act.put, sz1, sz2, sz3, i64_w, i32_w]
       rfl
      refine pure_ (i := 8) (N := some 54) (v := ?_) (a' := ?_) #[true, true, false, true, false, false, true, false, true, false, false, false, false, false, false] rfl rfl (any_of HT_.out (by kernel_rfl)) (fun _ _ _ h => h) (Or.inl ⟨by rfl, ?_⟩) ?_ ?_
      rotate_left
      ·intro w'
       go_simp
       with_reducible rfl
      rotate_left
      ·simp only [Act.put, sz1, sz2, sz3, i64_w, i32_w]
       rfl
      refine pure_ (i := 10) (N := some 56) (v := ?_) (a' := ?_) #[true, true, false, true, false, false, true, false, true, false, true, false, false, false, false] rfl rfl (any_of HT_.out (by kernel_rfl)) (fun _ _ _ h => h) (Or.inl ⟨by rfl, ?_⟩) ?_ ?_
      rotate_left
      ·intro w'
       go_simp
       with_reducible rfl
      rotate_left
      ·simp only [Act.put, sz1, sz2, sz3, i64_w, i32_w]
       rfl
      refine take_ (i := 2) (N := some 48) (v := ?_) (a' := ?_) #[true, true, true, true, false, false, true, false, true, false, true, false, false, false, false] rfl rfl (take_ofW HT_.out HW_.out (by kernel_rfl)) (fun _ _ _ h => h) (Or.inl ⟨by rfl, ?_⟩) hHeld ?_ ?_
      rotate_left
      ·rintro w' ⟨s0, s1, s2, s3, s4, s5⟩
       go_simp
       with_reducible rfl
      rotate_left
      ·simp only [Act.put, sz1, sz2, sz3, i64_w, i32_w]
       rfl
      refine take_ (i := 4) (N := some 50) (v := ?_) (a' := ?_) #[true, true, true, true, true, false, true, false, true, false, true, false, false, false, false] rfl rfl (take_ofW HT_.out HW_.out (by kernel_rfl)) (fun _ _ _ h => h) (Or.inl ⟨by rfl, ?_⟩) hHeld ?_ ?_
      rotate_left
      ·rintro w' ⟨s0, s1, s2, s3, s4, s5⟩
       go_simp
       with_reducible rfl
      rotate_left
      ·simp only [Act.put, sz1, sz2, sz3, i64_w, i32_w]
       rfl
      refine take_ (i := 7) (N := some 53) (v := ?_) (a' := ?_) #[true, true, true, true, true, false, true, true, true, false, true, false, false, false, false] rfl rfl (take_ofW HT_.out HW_.out (by kernel_rfl)) (fun _ _ _ h => h) (Or.inl ⟨by rfl, ?_⟩) hHeld ?_ ?_
      rotate_left
      ·rintro w' ⟨s0, s1, s2, s3, s4, s5⟩
       go_simp
       with_reducible rfl
      rotate_left
      ·simp only [Act.put, sz1, sz2, sz3, i64_w, i32_w]
       rfl
      refine take_ (i := 9) (N := some 55) (v := ?_) (a' := ?_) #[true, true, true, true, true, false, true, true, true, true, true, false, false, false, false] rfl rfl (take_ofW HT_.out HW_.out (by kernel_rfl)) (fun _ _ _ h => h) (Or.inl ⟨by rfl, ?_⟩) hHeld ?_ ?_
      rotate_left
      ·rintro w' ⟨s0, s1, s2, s3, s4, s5⟩
       go_simp
       with_reducible rfl
      rotate_left
      ·simp only [Act.put, sz1, sz2, sz3, i64_w, i32_w]
       rfl
      refine take_ (i := 11) (N := some 57) (v := ?_) (a' := ?_) #[true, true, true, true, true, false, true, true, true, true, true, true, false, false, false] rfl rfl (take_ofW HT_.out HW_.out (by kernel_rfl)) (fun _ _ _ h => h) (Or.inl ⟨by rfl, ?_⟩) hHeld ?_ ?_
      rotate_left
      ·rintro w' ⟨s0, s1, s2, s3, s4, s5⟩
       go_simp
       with_reducible rfl
      rotate_left
      ·simp only [Act.put, sz1, sz2, sz3, i64_w, i32_w]
       rfl
      refine one_ (i := 5) (N := some 51) #[true, true, true, true, true, true, true, true, true, true, true, true, false, false, false] rfl rfl (one_of HT_.out (by kernel_rfl)) (by decide) (fun K hK => ?_)
      refine goes_ Try.func36 (by kernel_rfl) rfl #[.pointer (some ⟨b_q105, 0, none⟩), .int .i64 a0_4, .int .i64 a0_5] (by rfl) rfl rfl (by (try simp only [List.map_toArray, List.map_cons, List.map_nil]); first | done | rfl | (simp only [List.length_drop, List.length_take]; rfl)) ?_
      with_reducible refine (dlog_Table_Add.calls b_q105 q105 a0_4 a0_5 t110 _ ?side1 A23.out).mono ?_
      (case side1 => exact TBok.belowT HG_q105.out (by repeat (first | (with_reducible first | exact HB.out | apply bA | apply bN | apply bD | refine bS ?_ GE101.out) | exact HB.out)))
      rintro e w26 ⟨rfl, hb⟩
      refine ⟨_, rfl, ?_⟩
      have n0_ := Q9a.mk (kB (g := gb101) (o := .cells #[.int .i64 a0_0, .int .i64 a0_1, .slice A0_2 l0_2.length c0_2, .int .i64 a0_3, .int .i64 a0_4, .int .i64 a0_5] 51 (0, 0)) (by (with_reducible repeat (first | refine kN ?_ _ | refine kD ?_ | refine kA ?_ _)); exact BK101.out) hb)
      have n1_ := Q9a.mk (bP (by repeat (first | (with_reducible first | exact HB.out | apply bA | apply bN | apply bD | refine bS ?_ GE101.out) | exact HB.out)) hb)
      clear BK101
      clear HB
      have BK101 := n0_
      have HB := n1_
      clear n0_ n1_
      (try clear hb)
      (try clear hb2)
      (try clear hk)
      (try clear hi)
      refine hK.out _ _ ⟨(kC BK101.out 0).trans rfl, (kC BK101.out 1).trans rfl, (kC BK101.out 2).trans rfl, (kC BK101.out 3).trans rfl, (kC BK101.out 4).trans rfl, (kC BK101.out 5).trans rfl⟩ (fun hHeld => ?_)
      clear hK K
      refine norm_ (a' := ?_) ?_ ?_
      rotate_left
      ·show Act.put _ (some 51) _ = _
       simp only [Act.put, sz1, sz2, sz3, i64_w, i32_w]
       rfl
      refine one_ (i := 12) (N := some 58) #[true, true, true, true, true, true, true, true, true, true, true, true, true, false, false] rfl rfl (one_of HT_.out (by kernel_rfl)) (by decide) (fun K hK => ?_)
      refine goes_ Try.func37 (by kernel_rfl) rfl #[.agg #[.int .i64 a0_0, .int .i64 a0_1, .slice A0_2 l0_2.length c0_2], .int .i64 a0_4, .int .i64 a0_5] (by rfl) rfl rfl (by (try simp only [List.map_toArray, List.map_cons, List.map_nil]); first | done | rfl | (simp only [List.length_drop, List.length_take]; rfl)) ?_
      with_reducible refine (r4Add.calls kj12 a0_0 a0_1 _ _ l0_2 a0_4 a0_5 t111 _ ?side1 ?side2 A24.out).mono ?_
      (case side1 => repeat (first | exact (Kd.C_below HR0_2.out HB.out) | (with_reducible refine Kd.C_alloc ?_ _) | (with_reducible refine Kd.C_drewN ?_ _) | (with_reducible refine Kd.C_drew ?_)))
      (case side2 => exact HC0_2.out)
      rintro e w27 ⟨rfl, hb⟩
      refine ⟨_, rfl, ?_⟩
      have n0_ := Q9a.mk (kB (g := gb101) (o := .cells #[.int .i64 a0_0, .int .i64 a0_1, .slice A0_2 l0_2.length c0_2, .int .i64 a0_3, .int .i64 a0_4, .int .i64 a0_5] 51 (0, 0)) (by (with_reducible repeat (first | refine kN ?_ _ | refine kD ?_ | refine kA ?_ _)); exact BK101.out) hb)
      have n1_ := Q9a.mk (bP (by repeat (first | (with_reducible first | exact HB.out | apply bA | apply bN | apply bD | refine bS ?_ GE101.out) | exact HB.out)) hb)
      clear BK101
      clear HB
      have BK101 := n0_
      have HB := n1_
      clear n0_ n1_
      (try clear hb)
      (try clear hb2)
      (try clear hk)
      (try clear hi)
      refine hK.out _ _ ⟨(kC BK101.out 0).trans rfl, (kC BK101.out 1).trans rfl, (kC BK101.out 2).trans rfl, (kC BK101.out 3).trans rfl, (kC BK101.out 4).trans rfl, (kC BK101.out 5).trans rfl⟩ (fun hHeld => ?_)
      clear hK K
      refine norm_ (a' := ?_) ?_ ?_
      rotate_left
      ·show Act.put _ (some 58) _ = _
       simp only [Act.put, sz1, sz2, sz3, i64_w, i32_w]
       rfl
      refine pure_ (i := 13) (N := some 59) (v := ?_) (a' := ?_) #[true, true, true, true, true, true, true, true, true, true, true, true, true, true, false] rfl rfl (any_of HT_.out (by kernel_rfl)) (fun _ _ _ h => h) (Or.inl ⟨by rfl, ?_⟩) ?_ ?_
      rotate_left
      ·intro w'
       go_simp
       with_reducible rfl
      rotate_left
      ·simp only [Act.put, sz1, sz2, sz3, i64_w, i32_w]
       rfl
      refine pure_ (i := 14) (N := some 2) (v := ?_) (a' := ?_) #[true, true, true, true, true, true, true, true, true, true, true, true, true, true, true] rfl rfl (any_of HT_.out (by kernel_rfl)) (fun _ _ _ h => h) (Or.inl ⟨by rfl, ?_⟩) ?_ ?_
      rotate_left
      ·intro w'
       go_simp
       with_reducible rfl
      rotate_left
      ·simp only [Act.put, sz1, sz2, sz3, i64_w, i32_w]
       rfl
      refine done_ (done_of HT_.out (by kernel_rfl)) ?_
      try go_wp2
      go_ret
      exact ⟨by first | rfl | (simp [eN, eS] <;> rfl) | (simp [*, eN, eS] <;> rfl), belowZ HBZ.out (by repeat (first | (with_reducible first | exact HB.out | apply bA | apply bN | apply bD | refine bS ?_ GE101.out) | exact HB.out))⟩
end
end Go.Proofs.Ytbohbfggmnjpdaa.P
end
-- Q6
section
namespace Go.Proofs.Ytbohbfggmnjpdaa.Pl
open Go.RowKit Go.Proofs.Ytbohbfggmnjpdaa.P Go.Proofs.Ytbohbfggmnjpdaa.Hand Go.Proofs.YtbohbfggmnjpdaaW.PrintWords
theorem table_cases (P M : Int) (mod : List Int) (b : Int) (hP : P < 9223372036854775808) :
  l8table.f P M mod b = some (none, true, true) ∨ ∃ T : TBv, Is T.G P M mod ∧ T.G.el b = T.base ∧ l8table.f P M mod b = some (some T, false, true) := by
 classical
 rcases open_cases P M mod hP with ho | ⟨G, hG, ho⟩
 ·left
  unfold l8table.f
  rw [if_pos ho]
 ·have h0 : ¬ l8open.f P M mod = some (none, true, true) := by
   rw [ho]
   intro e
   injection e with e
   injection e with e1 e2
   cases e1
  by_cases h : ∃ T : TBv, Is T.G P M mod ∧ T.G.el b = T.base ∧ l8open.f P M mod = some (some T.G, false, true)
  ·right
   refine ⟨Classical.choose h, (Classical.choose_spec h).1, (Classical.choose_spec h).2.1, ?_⟩
   unfold l8table.f
   rw [if_neg h0, dif_pos h]
  ·left
   unfold l8table.f
   rw [if_neg h0, dif_neg h, if_pos ⟨G, hG, ho, fun hp => h ⟨⟨G, G.el b, hp⟩, hG, rfl, ho⟩⟩]
theorem tblog_solve (T : TBv) (b x : Int) (hb : T.G.el b = T.base) : tblog T x = solveR T.G b x := by
 classical
 have hb0 : T.G.el b ≠ 0 := by rw [hb]; exact T.prim.ne
 unfold solveR
 by_cases hx : T.G.el x = 0
 ·rw [if_pos (Or.inr hx), tblog_zero T x hx]
 ·obtain ⟨a, ha, hae, hal⟩ := tblog_ok T x hx
  rw [hal, if_neg (fun h => h.elim hb0 hx)]
  refine (solveV_found (by rw [hb]; exact hae) (fun s hs e => ?_)).symm
  rw [hb] at e
  have := T.prim.inj (i := s) (j := a) (Nat.lt_trans hs ha) ha (e.trans hae.symm)
  omega
theorem tbexp_pow (T : TBv) (b n : Int) (hb : T.G.el b = T.base) : tbexp T n = (T.G.pow b n).1 := by
 have hb0 : T.G.el b ≠ 0 := by rw [hb]; exact T.prim.ne
 unfold tbexp Cw.GFv.pow
 by_cases hn : n = 0
 ·rw [if_pos hn, hn, Int.zero_emod, Int.toNat_zero, Cw.pw_zero, T.G.num_one]
 ·rw [if_neg hn, if_neg hb0, hb]
end Go.Proofs.Ytbohbfggmnjpdaa.Pl
end
-- PureLZ
section
namespace Go.Proofs.Ytbohbfggmnjpdaa
open Go.RowKit Go.Proofs.Ytbohbfggmnjpdaa.P Go.Proofs.Ytbohbfggmnjpdaa.Hand Go.Proofs.YtbohbfggmnjpdaaW.PrintWords Pl
theorem Pl.refZech {T : TBv} {P M : Int} {mod : List Int} (hT : Is T.G P M mod) (b n : Int) (hb : T.G.el b = T.base) : Ev (fun k => r8Zech.f k P M mod b n) (tblog T (T.G.add 1 (tbexp T n))) := by
 refine Ev.bind (is_pow hT b n) ?_
 rw [← tbexp_pow T b n hb]
 refine Ev.bind (is_add hT 1 (tbexp T n)) ?_
 have hs := refSolve hT b (T.G.add 1 (tbexp T n))
 rw [← tblog_solve T b _ hb] at hs
 refine Ev.bind hs ?_
 exact Ev.congr (fun k => rfl) (Ev.now _)
theorem Pure.DlogZech (P M : Int) (l : List Int) (B X Y : Int) (wP : (Lit.int .i64 P).wf = true) (wM : (Lit.int .i64 M).wf = true) (hl : l.length ≤ maxLen) (wl : ∀ x ∈ l, (Lit.int .i64 x).wf = true) (wB : (Lit.int .i64 B).wf = true) (wX : (Lit.int .i64 X).wf = true) (wY : (Lit.int .i64 Y).wf = true) :
  ∃ k, l8DlogZech.f k P M l B X Y = some true := by
 classical
 refine Ev.rounds (g := fun k => l8DlogZech.f k P M l B X Y) ?_
 rcases table_cases P M l B (wf_lt wP) with ho | ⟨T, hT, hb, ho⟩
 ·refine Ev.bind (Ev.congr (fun _ => ho) (Ev.now _)) ?_
  dsimp only [optE]
  exact Ev.congr (fun k => if_pos rfl) (Ev.now _)
 ·refine Ev.bind (Ev.congr (fun _ => ho) (Ev.now _)) ?_
  dsimp only [optE]
  refine Ev.congr (fun k => if_neg Bool.false_ne_true) ?_
  refine Ev.bind (Ev.congr (fun _ => rfl) (Ev.now (tblog T (T.G.add 1 (tbexp T X))))) ?_
  refine Ev.bind (Pl.refZech hT B X hb) ?_
  refine Ev.congr (fun k => if_pos rfl) ?_
  rw [bne_self_eq_false]
  refine Ev.step (fun k => by simp only [l8DlogZech.j0]; rw [if_neg Bool.false_ne_true]) ?_
  refine Ev.bind (Ev.congr (fun _ => rfl) (Ev.now (T.G.add X Y))) ?_
  refine Ev.bind (is_add hT X Y) ?_
  exact Ev.congr (fun k => congrArg some (beq_iff_eq.2 rfl)) (Ev.now _)
end Go.Proofs.Ytbohbfggmnjpdaa
end
