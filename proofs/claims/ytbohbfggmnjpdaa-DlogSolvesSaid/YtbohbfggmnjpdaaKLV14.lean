/- What dlogSolves_holds needs: texts LV1, Q5, put together. -/
import Derived.Test.YtbohbfggmnjpdaaKLV13
import Derived.Laws.CopyOwn
import Derived.Lib.LazyBuf
set_option linter.unusedVariables false
set_option linter.unusedSimpArgs false
-- LV1
section
namespace Go.Proofs.Ytbohbfggmnjpdaa.P
noncomputable section
open Go.RowKit Go.Proofs.Ytbohbfggmnjpdaa.Hand Go.Proofs.YtbohbfggmnjpdaaW.PrintWords Go.Proofs.YtbohbfggmnjpdaaW.PrintLast Go.Proofs.YtbohbfggmnjpdaaW.PrintMore
set_option linter.unusedVariables false
set_option linter.unusedSimpArgs false
def l8DlogSolves.f (k : Nat) (a0_0 : Int) (a0_1 : Int) (l0_2 : List Int) (a1 : Int) (a2 : Int) : Option (Bool) := (l8open.f a0_0 a0_1 l0_2).bind fun bt102 => (optE bt102.1 (if bt102.2.1 = true then (some bt102.2.2) else (none)) (fun q105 => (if bt102.2.1 = true then (some bt102.2.2) else ((dlog_Solve.f q105 a1 a2).bind fun bt106 => ((r8Solve.f k a0_0 a0_1 l0_2 a1 a2).bind fun bt108 => (if bt106.1 = bt108.1 then (if bt106.2 = bt108.2 then ((dlog_Solve.f q105 0 1).bind fun bt110 => (some (bt110.2 == 7))) else (some false)) else (some false)))))))
set_option maxHeartbeats 8000000 in
set_option maxRecDepth 100000 in
theorem l8DlogSolves.calls (k : Nat) (a0_0 : Int) (a0_1 : Int) (A0_2 : Option Addr) (c0_2 : Nat) (l0_2 : List Int) (a1 : Int) (a2 : Int) (r : Bool) (w : World) (hr0_2 : Kd.C (Kd.int .i64) w A0_2 l0_2.length l0_2) (hc0_2 : l0_2.length ≤ c0_2) (h : l8DlogSolves.f k a0_0 a0_1 l0_2 a1 a2 = some r) :
  Calls Try.prog 7 #[.agg #[.int .i64 a0_0, .int .i64 a0_1, .slice A0_2 l0_2.length c0_2], .int .i64 a1, .int .i64 a2] w fun e w' => e = .returned (.bool r) ∧ Below w.heap.size w w' := by
 have hu24 := Try.underlying24
 have HR0_2 := Q9a.mk hr0_2
 have HC0_2 := Q9a.mk hc0_2
 clear hr0_2 hc0_2
 have HB := Q9a.mk (Below.refl w.heap.size w)
 have H : ((l8open.f a0_0 a0_1 l0_2).bind fun bt102 => (optE bt102.1 (if bt102.2.1 = true then (some bt102.2.2) else (none)) (fun q105 => (if bt102.2.1 = true then (some bt102.2.2) else ((dlog_Solve.f q105 a1 a2).bind fun bt106 => ((r8Solve.f k a0_0 a0_1 l0_2 a1 a2).bind fun bt108 => (if bt106.1 = bt108.1 then (if bt106.2 = bt108.2 then ((dlog_Solve.f q105 0 1).bind fun bt110 => (some (bt110.2 == 7))) else (some false)) else (some false)))))))) = some r := h
 clear h
 replace H := Option.bind_eq_some_iff.mp H
 obtain ⟨⟨t102, t103, t104⟩, A40, H⟩ := H
 replace H : (optE t102 (if t103 = true then (some t104) else (none)) (fun q105 => (if t103 = true then (some t104) else ((dlog_Solve.f q105 a1 a2).bind fun bt106 => ((r8Solve.f k a0_0 a0_1 l0_2 a1 a2).bind fun bt108 => (if bt106.1 = bt108.1 then (if bt106.2 = bt108.2 then ((dlog_Solve.f q105 0 1).bind fun bt110 => (some (bt110.2 == 7))) else (some false)) else (some false))))))) = some r := H
 have A4 := Q9a.mk A40
 clear A40
 rcases t102 with _ | q105
 ·have H1 : (if t103 = true then (some t104) else (none)) = some r := H
  clear H
  have H := H1
  clear H1
  by_cases c5 : t103 = true
  ·subst c5
   have H1 : (some t104) = some r := by rw [if_pos rfl] at H; exact H
   clear H
   have H := H1
   clear H1
   obtain rfl := Option.some.inj H
   go_enter Try.func7, Try.ntmps7
   go_wp2_with (first | ((with_reducible refine gate_dst (N := 3) rfl ?_); refine box_event ?hg (N := 3) ?hd (cs := #[.int .i64 a0_0, .int .i64 a0_1, .slice A0_2 l0_2.length c0_2]) (t := 24) ?hr ?_; (case hd => rfl); (case hg => rfl); (case hr => first | (go_simp; done) | (go_simp; rfl)); intro gb101 hg w6 hbox hb; have n0_ := Q9a.mk (bP (by repeat (first | (with_reducible first | exact HB.out | apply bA | apply bN | apply bD) | exact HB.out)) hb); have n1_ := Q9a.mk (hbox); have n2_ := Q9a.mk ((by rw [hg]; exact (bZ (by repeat (first | (with_reducible first | exact HB.out | apply bA | apply bN | apply bD) | exact HB.out))) : w.heap.size ≤ gb101)); have n3_ := Q9a.mk ((by rw [hg]; exact (bZ (by repeat (first | (with_reducible first | exact HB.out | apply bA | apply bN | apply bD) | exact HB.out))) : w.heap.size ≤ gb101)); clear HB; have HB := n0_; have BK101 := n1_; have GW101 := n2_; have GE101 := n3_; clear n0_ n1_ n2_ n3_; clear hb hbox hg; have hcz7_0 : w6.cell? ⟨gb101, 0, none⟩ = some (.int .i64 a0_0) := (kC BK101.out 0).trans rfl; have hcz7_1 : w6.cell? ⟨gb101, 1, none⟩ = some (.int .i64 a0_1) := (kC BK101.out 1).trans rfl; have hcz7_2 : w6.cell? ⟨gb101, 2, none⟩ = some (.slice A0_2 l0_2.length c0_2) := (kC BK101.out 2).trans rfl; have hfz7_0 := kF BK101.out 0; have hfz7_1 := kF BK101.out 1; have hfz7_2 := kF BK101.out 2) | ((with_reducible refine gate_callee (f := 13) rfl ?_); refine goesL_ (some 18) rfl rfl Try.func13 (by kernel_rfl) rfl #[.agg #[.int .i64 a0_0, .int .i64 a0_1, .slice A0_2 l0_2.length c0_2]] rfl (by (try simp only [List.map_toArray, List.map_cons, List.map_nil]); first | done | rfl | (simp only [List.length_drop, List.length_take]; rfl)) ?_; (with_reducible refine (l8open.calls a0_0 a0_1 _ _ l0_2 none true t104 _ ?side1 ?side2 A4.out).mono ?_); (case side1 => repeat (first | exact (Kd.C_below HR0_2.out HB.out) | (with_reducible refine Kd.C_alloc ?_ _) | (with_reducible refine Kd.C_drewN ?_ _) | (with_reducible refine Kd.C_drew ?_))); (case side2 => exact HC0_2.out); rintro e w8 ⟨b_, rfl, hb, hgo⟩; refine ⟨_, rfl, ?_⟩; have n0_ := Q9a.mk (kB (g := gb101) (o := .cells #[.int .i64 a0_0, .int .i64 a0_1, .slice A0_2 l0_2.length c0_2] 24 (0, 0)) (by (with_reducible repeat (first | refine kN ?_ _ | refine kD ?_ | refine kA ?_ _)); exact BK101.out) hb); have n1_ := Q9a.mk (bP (by repeat (first | (with_reducible first | exact HB.out | apply bA | apply bN | apply bD | refine bS ?_ GE101.out) | exact HB.out)) hb); clear BK101; clear HB; have BK101 := n0_; have HB := n1_; clear n0_ n1_; (try clear hb); (try clear hb2); (try clear hk); (try clear hi); (try simp only [gfW_none, gfW_some])))
   go_ret
   exact ⟨by first | rfl | (simp [eN, eS] <;> rfl) | (simp [*, eN, eS] <;> rfl), by repeat (first | (with_reducible first | exact HB.out | apply bA | apply bN | apply bD | refine bS ?_ GE101.out) | exact HB.out)⟩
  ·replace c5 := Bool.eq_false_iff.mpr c5
   subst c5
   have H1 : (none) = some r := by rw [if_neg (show ¬ (false = true) by decide)] at H; exact H
   clear H
   have H := H1
   clear H1
   exact absurd H (by simp)
 ·have H1 : (if t103 = true then (some t104) else ((dlog_Solve.f q105 a1 a2).bind fun bt106 => ((r8Solve.f k a0_0 a0_1 l0_2 a1 a2).bind fun bt108 => (if bt106.1 = bt108.1 then (if bt106.2 = bt108.2 then ((dlog_Solve.f q105 0 1).bind fun bt110 => (some (bt110.2 == 7))) else (some false)) else (some false))))) = some r := H
  clear H
  have H := H1
  clear H1
  by_cases c9 : t103 = true
  ·subst c9
   have H1 : (some t104) = some r := by rw [if_pos rfl] at H; exact H
   clear H
   have H := H1
   clear H1
   obtain rfl := Option.some.inj H
   go_enter Try.func7, Try.ntmps7
   go_wp2_with (first | ((with_reducible refine gate_dst (N := 3) rfl ?_); refine box_event ?hg (N := 3) ?hd (cs := #[.int .i64 a0_0, .int .i64 a0_1, .slice A0_2 l0_2.length c0_2]) (t := 24) ?hr ?_; (case hd => rfl); (case hg => rfl); (case hr => first | (go_simp; done) | (go_simp; rfl)); intro gb101 hg w10 hbox hb; have n0_ := Q9a.mk (bP (by repeat (first | (with_reducible first | exact HB.out | apply bA | apply bN | apply bD) | exact HB.out)) hb); have n1_ := Q9a.mk (hbox); have n2_ := Q9a.mk ((by rw [hg]; exact (bZ (by repeat (first | (with_reducible first | exact HB.out | apply bA | apply bN | apply bD) | exact HB.out))) : w.heap.size ≤ gb101)); have n3_ := Q9a.mk ((by rw [hg]; exact (bZ (by repeat (first | (with_reducible first | exact HB.out | apply bA | apply bN | apply bD) | exact HB.out))) : w.heap.size ≤ gb101)); clear HB; have HB := n0_; have BK101 := n1_; have GW101 := n2_; have GE101 := n3_; clear n0_ n1_ n2_ n3_; clear hb hbox hg; have hcz11_0 : w10.cell? ⟨gb101, 0, none⟩ = some (.int .i64 a0_0) := (kC BK101.out 0).trans rfl; have hcz11_1 : w10.cell? ⟨gb101, 1, none⟩ = some (.int .i64 a0_1) := (kC BK101.out 1).trans rfl; have hcz11_2 : w10.cell? ⟨gb101, 2, none⟩ = some (.slice A0_2 l0_2.length c0_2) := (kC BK101.out 2).trans rfl; have hfz11_0 := kF BK101.out 0; have hfz11_1 := kF BK101.out 1; have hfz11_2 := kF BK101.out 2) | ((with_reducible refine gate_callee (f := 13) rfl ?_); refine goesL_ (some 18) rfl rfl Try.func13 (by kernel_rfl) rfl #[.agg #[.int .i64 a0_0, .int .i64 a0_1, .slice A0_2 l0_2.length c0_2]] rfl (by (try simp only [List.map_toArray, List.map_cons, List.map_nil]); first | done | rfl | (simp only [List.length_drop, List.length_take]; rfl)) ?_; (with_reducible refine (l8open.calls a0_0 a0_1 _ _ l0_2 (some q105) true t104 _ ?side1 ?side2 A4.out).mono ?_); (case side1 => repeat (first | exact (Kd.C_below HR0_2.out HB.out) | (with_reducible refine Kd.C_alloc ?_ _) | (with_reducible refine Kd.C_drewN ?_ _) | (with_reducible refine Kd.C_drew ?_))); (case side2 => exact HC0_2.out); rintro e w12 ⟨b_q105, rfl, hb, hgo⟩; refine ⟨_, rfl, ?_⟩; have n0_ := Q9a.mk (kB (g := gb101) (o := .cells #[.int .i64 a0_0, .int .i64 a0_1, .slice A0_2 l0_2.length c0_2] 24 (0, 0)) (by (with_reducible repeat (first | refine kN ?_ _ | refine kD ?_ | refine kA ?_ _)); exact BK101.out) hb); have n1_ := Q9a.mk (bP (by repeat (first | (with_reducible first | exact HB.out | apply bA | apply bN | apply bD | refine bS ?_ GE101.out) | exact HB.out)) hb); clear BK101; clear HB; have BK101 := n0_; have HB := n1_; clear n0_ n1_; (try clear hb); (try clear hb2); (try clear hk); (try clear hi); (try simp only [gfW_none, gfW_some]); have HBZ := HB; have HRn_ := Q9a.mk (Kd.C_below HR0_2.out HB.out); clear HR0_2; have HR0_2 := HRn_; clear HRn_; clear HB; obtain ⟨wz, rfl⟩ : ∃ z_ : World, z_ = w := ⟨_, rfl⟩; obtain ⟨w, rfl⟩ : ∃ z_ : World, z_ = w12 := ⟨_, rfl⟩; have HB := Q9a.mk (Below.refl w.heap.size w); have HG_q105 := Q9a.mk (hgo : GFok w b_q105 q105); clear hgo))
   go_ret
   exact ⟨by first | rfl | (simp [eN, eS] <;> rfl) | (simp [*, eN, eS] <;> rfl), belowZ HBZ.out (by repeat (first | (with_reducible first | exact HB.out | apply bA | apply bN | apply bD | refine bS ?_ GE101.out) | exact HB.out))⟩
  ·replace c9 := Bool.eq_false_iff.mpr c9
   subst c9
   have H1 : ((dlog_Solve.f q105 a1 a2).bind fun bt106 => ((r8Solve.f k a0_0 a0_1 l0_2 a1 a2).bind fun bt108 => (if bt106.1 = bt108.1 then (if bt106.2 = bt108.2 then ((dlog_Solve.f q105 0 1).bind fun bt110 => (some (bt110.2 == 7))) else (some false)) else (some false)))) = some r := by rw [if_neg (show ¬ (false = true) by decide)] at H; exact H
   clear H
   have H := H1
   clear H1
   replace H := Option.bind_eq_some_iff.mp H
   obtain ⟨⟨t106, t107⟩, A130, H⟩ := H
   replace H : ((r8Solve.f k a0_0 a0_1 l0_2 a1 a2).bind fun bt108 => (if t106 = bt108.1 then (if t107 = bt108.2 then ((dlog_Solve.f q105 0 1).bind fun bt110 => (some (bt110.2 == 7))) else (some false)) else (some false))) = some r := H
   have A13 := Q9a.mk A130
   clear A130
   replace H := Option.bind_eq_some_iff.mp H
   obtain ⟨⟨t108, t109⟩, A140, H⟩ := H
   replace H : (if t106 = t108 then (if t107 = t109 then ((dlog_Solve.f q105 0 1).bind fun bt110 => (some (bt110.2 == 7))) else (some false)) else (some false)) = some r := H
   have A14 := Q9a.mk A140
   clear A140
   by_cases c15 : t106 = t108
   ·rw [if_pos c15] at H
    have c15b0 : (t106 == t108) = true := beq_iff_eq.mpr c15
    have c15b1 : (t106 != t108) = false := bne_eq_false_iff_eq.mpr c15
    clear c15
    by_cases c16 : t107 = t109
    ·rw [if_pos c16] at H
     have c16b0 : (t107 == t109) = true := beq_iff_eq.mpr c16
     have c16b1 : (t107 != t109) = false := bne_eq_false_iff_eq.mpr c16
     clear c16
     replace H := Option.bind_eq_some_iff.mp H
     obtain ⟨⟨t110, t111⟩, A170, H⟩ := H
     replace H : (some (t111 == 7)) = some r := H
     have A17 := Q9a.mk A170
     clear A170
     obtain rfl := Option.some.inj H
     go_enter Try.func7, Try.ntmps7
     go_wp2_with (first | ((with_reducible refine gate_dst (N := 3) rfl ?_); refine box_event ?hg (N := 3) ?hd (cs := #[.int .i64 a0_0, .int .i64 a0_1, .slice A0_2 l0_2.length c0_2]) (t := 24) ?hr ?_; (case hd => rfl); (case hg => rfl); (case hr => first | (go_simp; done) | (go_simp; rfl)); intro gb101 hg w18 hbox hb; have n0_ := Q9a.mk (bP (by repeat (first | (with_reducible first | exact HB.out | apply bA | apply bN | apply bD) | exact HB.out)) hb); have n1_ := Q9a.mk (hbox); have n2_ := Q9a.mk ((by rw [hg]; exact (bZ (by repeat (first | (with_reducible first | exact HB.out | apply bA | apply bN | apply bD) | exact HB.out))) : w.heap.size ≤ gb101)); have n3_ := Q9a.mk ((by rw [hg]; exact (bZ (by repeat (first | (with_reducible first | exact HB.out | apply bA | apply bN | apply bD) | exact HB.out))) : w.heap.size ≤ gb101)); clear HB; have HB := n0_; have BK101 := n1_; have GW101 := n2_; have GE101 := n3_; clear n0_ n1_ n2_ n3_; clear hb hbox hg; have hcz19_0 : w18.cell? ⟨gb101, 0, none⟩ = some (.int .i64 a0_0) := (kC BK101.out 0).trans rfl; have hcz19_1 : w18.cell? ⟨gb101, 1, none⟩ = some (.int .i64 a0_1) := (kC BK101.out 1).trans rfl; have hcz19_2 : w18.cell? ⟨gb101, 2, none⟩ = some (.slice A0_2 l0_2.length c0_2) := (kC BK101.out 2).trans rfl; have hfz19_0 := kF BK101.out 0; have hfz19_1 := kF BK101.out 1; have hfz19_2 := kF BK101.out 2) | ((with_reducible refine gate_callee (f := 13) rfl ?_); refine goesL_ (some 18) rfl rfl Try.func13 (by kernel_rfl) rfl #[.agg #[.int .i64 a0_0, .int .i64 a0_1, .slice A0_2 l0_2.length c0_2]] rfl (by (try simp only [List.map_toArray, List.map_cons, List.map_nil]); first | done | rfl | (simp only [List.length_drop, List.length_take]; rfl)) ?_; (with_reducible refine (l8open.calls a0_0 a0_1 _ _ l0_2 (some q105) false t104 _ ?side1 ?side2 A4.out).mono ?_); (case side1 => repeat (first | exact (Kd.C_below HR0_2.out HB.out) | (with_reducible refine Kd.C_alloc ?_ _) | (with_reducible refine Kd.C_drewN ?_ _) | (with_reducible refine Kd.C_drew ?_))); (case side2 => exact HC0_2.out); rintro e w20 ⟨b_q105, rfl, hb, hgo⟩; refine ⟨_, rfl, ?_⟩; have n0_ := Q9a.mk (kB (g := gb101) (o := .cells #[.int .i64 a0_0, .int .i64 a0_1, .slice A0_2 l0_2.length c0_2] 24 (0, 0)) (by (with_reducible repeat (first | refine kN ?_ _ | refine kD ?_ | refine kA ?_ _)); exact BK101.out) hb); have n1_ := Q9a.mk (bP (by repeat (first | (with_reducible first | exact HB.out | apply bA | apply bN | apply bD | refine bS ?_ GE101.out) | exact HB.out)) hb); clear BK101; clear HB; have BK101 := n0_; have HB := n1_; clear n0_ n1_; (try clear hb); (try clear hb2); (try clear hk); (try clear hi); (try simp only [gfW_none, gfW_some]); have HBZ := HB; have HRn_ := Q9a.mk (Kd.C_below HR0_2.out HB.out); clear HR0_2; have HR0_2 := HRn_; clear HRn_; clear HB; obtain ⟨wz, rfl⟩ : ∃ z_ : World, z_ = w := ⟨_, rfl⟩; obtain ⟨w, rfl⟩ : ∃ z_ : World, z_ = w20 := ⟨_, rfl⟩; have HB := Q9a.mk (Below.refl w.heap.size w); have HG_q105 := Q9a.mk (hgo : GFok w b_q105 q105); clear hgo) | ((with_reducible refine gate_callee (f := 24) rfl ?_); refine goesL_ (some 28) rfl rfl Try.func24 (by kernel_rfl) rfl #[.pointer (some ⟨b_q105, 0, none⟩), .int .i64 a1, .int .i64 a2] rfl (by (try simp only [List.map_toArray, List.map_cons, List.map_nil]); first | done | rfl | (simp only [List.length_drop, List.length_take]; rfl)) ?_; (with_reducible refine (dlog_Solve.calls b_q105 q105 a1 a2 t106 t107 _ ?side1 A13.out).mono ?_); (case side1 => exact GFok.belowT HG_q105.out (by repeat (first | (with_reducible first | exact HB.out | apply bA | apply bN | apply bD | refine bS ?_ GE101.out) | exact HB.out))); rintro e w21 ⟨rfl, hb⟩; refine ⟨_, rfl, ?_⟩; have n0_ := Q9a.mk (kB (g := gb101) (o := .cells #[.int .i64 a0_0, .int .i64 a0_1, .slice A0_2 l0_2.length c0_2] 24 (0, 0)) (by (with_reducible repeat (first | refine kN ?_ _ | refine kD ?_ | refine kA ?_ _)); exact BK101.out) hb); have n1_ := Q9a.mk (bP (by repeat (first | (with_reducible first | exact HB.out | apply bA | apply bN | apply bD | refine bS ?_ GE101.out) | exact HB.out)) hb); clear BK101; clear HB; have BK101 := n0_; have HB := n1_; clear n0_ n1_; (try clear hb); (try clear hb2); (try clear hk); (try clear hi); have hcz22_0 : w21.cell? ⟨gb101, 0, none⟩ = some (.int .i64 a0_0) := (kC BK101.out 0).trans rfl; have hcz22_1 : w21.cell? ⟨gb101, 1, none⟩ = some (.int .i64 a0_1) := (kC BK101.out 1).trans rfl; have hcz22_2 : w21.cell? ⟨gb101, 2, none⟩ = some (.slice A0_2 l0_2.length c0_2) := (kC BK101.out 2).trans rfl; have hfz22_0 := kF BK101.out 0; have hfz22_1 := kF BK101.out 1; have hfz22_2 := kF BK101.out 2) | ((with_reducible refine gate_callee (f := 25) rfl ?_); refine goesL_ (some 35) rfl rfl Try.func25 (by kernel_rfl) rfl #[.agg #[.int .i64 a0_0, .int .i64 a0_1, .slice A0_2 l0_2.length c0_2], .int .i64 a1, .int .i64 a2] rfl (by (try simp only [List.map_toArray, List.map_cons, List.map_nil]); first | done | rfl | (simp only [List.length_drop, List.length_take]; rfl)) ?_; (with_reducible refine (r8Solve.calls k a0_0 a0_1 _ _ l0_2 a1 a2 t108 t109 _ ?side1 ?side2 A14.out).mono ?_); (case side1 => repeat (first | exact (Kd.C_below HR0_2.out HB.out) | (with_reducible refine Kd.C_alloc ?_ _) | (with_reducible refine Kd.C_drewN ?_ _) | (with_reducible refine Kd.C_drew ?_))); (case side2 => exact HC0_2.out); rintro e w23 ⟨rfl, hb⟩; refine ⟨_, rfl, ?_⟩; have n0_ := Q9a.mk (kB (g := gb101) (o := .cells #[.int .i64 a0_0, .int .i64 a0_1, .slice A0_2 l0_2.length c0_2] 24 (0, 0)) (by (with_reducible repeat (first | refine kN ?_ _ | refine kD ?_ | refine kA ?_ _)); exact BK101.out) hb); have n1_ := Q9a.mk (bP (by repeat (first | (with_reducible first | exact HB.out | apply bA | apply bN | apply bD | refine bS ?_ GE101.out) | exact HB.out)) hb); clear BK101; clear HB; have BK101 := n0_; have HB := n1_; clear n0_ n1_; (try clear hb); (try clear hb2); (try clear hk); (try clear hi)) | ((with_reducible refine gate_callee (f := 24) rfl ?_); refine goesL_ (some 48) rfl rfl Try.func24 (by kernel_rfl) rfl #[.pointer (some ⟨b_q105, 0, none⟩), .int .i64 0, .int .i64 1] rfl (by (try simp only [List.map_toArray, List.map_cons, List.map_nil]); first | done | rfl | (simp only [List.length_drop, List.length_take]; rfl)) ?_; (with_reducible refine (dlog_Solve.calls b_q105 q105 0 1 t110 t111 _ ?side1 A17.out).mono ?_); (case side1 => exact GFok.belowT HG_q105.out (by repeat (first | (with_reducible first | exact HB.out | apply bA | apply bN | apply bD | refine bS ?_ GE101.out) | exact HB.out))); rintro e w24 ⟨rfl, hb⟩; refine ⟨_, rfl, ?_⟩; have n0_ := Q9a.mk (kB (g := gb101) (o := .cells #[.int .i64 a0_0, .int .i64 a0_1, .slice A0_2 l0_2.length c0_2] 24 (0, 0)) (by (with_reducible repeat (first | refine kN ?_ _ | refine kD ?_ | refine kA ?_ _)); exact BK101.out) hb); have n1_ := Q9a.mk (bP (by repeat (first | (with_reducible first | exact HB.out | apply bA | apply bN | apply bD | refine bS ?_ GE101.out) | exact HB.out)) hb); clear BK101; clear HB; have BK101 := n0_; have HB := n1_; clear n0_ n1_; (try clear hb); (try clear hb2); (try clear hk); (try clear hi)))
     go_ret
     exact ⟨by first | rfl | (simp [eN, eS] <;> rfl) | (simp [*, eN, eS] <;> rfl), belowZ HBZ.out (by repeat (first | (with_reducible first | exact HB.out | apply bA | apply bN | apply bD | refine bS ?_ GE101.out) | exact HB.out))⟩
    ·rw [if_neg c16] at H
     have c16b0 : (t107 == t109) = false := beq_eq_false_iff_ne.mpr c16
     have c16b1 : (t107 != t109) = true := bne_iff_ne.mpr c16
     obtain rfl := Option.some.inj H
     go_enter Try.func7, Try.ntmps7
     go_wp2_with (first | ((with_reducible refine gate_dst (N := 3) rfl ?_); refine box_event ?hg (N := 3) ?hd (cs := #[.int .i64 a0_0, .int .i64 a0_1, .slice A0_2 l0_2.length c0_2]) (t := 24) ?hr ?_; (case hd => rfl); (case hg => rfl); (case hr => first | (go_simp; done) | (go_simp; rfl)); intro gb101 hg w25 hbox hb; have n0_ := Q9a.mk (bP (by repeat (first | (with_reducible first | exact HB.out | apply bA | apply bN | apply bD) | exact HB.out)) hb); have n1_ := Q9a.mk (hbox); have n2_ := Q9a.mk ((by rw [hg]; exact (bZ (by repeat (first | (with_reducible first | exact HB.out | apply bA | apply bN | apply bD) | exact HB.out))) : w.heap.size ≤ gb101)); have n3_ := Q9a.mk ((by rw [hg]; exact (bZ (by repeat (first | (with_reducible first | exact HB.out | apply bA | apply bN | apply bD) | exact HB.out))) : w.heap.size ≤ gb101)); clear HB; have HB := n0_; have BK101 := n1_; have GW101 := n2_; have GE101 := n3_; clear n0_ n1_ n2_ n3_; clear hb hbox hg; have hcz26_0 : w25.cell? ⟨gb101, 0, none⟩ = some (.int .i64 a0_0) := (kC BK101.out 0).trans rfl; have hcz26_1 : w25.cell? ⟨gb101, 1, none⟩ = some (.int .i64 a0_1) := (kC BK101.out 1).trans rfl; have hcz26_2 : w25.cell? ⟨gb101, 2, none⟩ = some (.slice A0_2 l0_2.length c0_2) := (kC BK101.out 2).trans rfl; have hfz26_0 := kF BK101.out 0; have hfz26_1 := kF BK101.out 1; have hfz26_2 := kF BK101.out 2) | ((with_reducible refine gate_callee (f := 13) rfl ?_); refine goesL_ (some 18) rfl rfl Try.func13 (by kernel_rfl) rfl #[.agg #[.int .i64 a0_0, .int .i64 a0_1, .slice A0_2 l0_2.length c0_2]] rfl (by (try simp only [List.map_toArray, List.map_cons, List.map_nil]); first | done | rfl | (simp only [List.length_drop, List.length_take]; rfl)) ?_; (with_reducible refine (l8open.calls a0_0 a0_1 _ _ l0_2 (some q105) false t104 _ ?side1 ?side2 A4.out).mono ?_); (case side1 => repeat (first | exact (Kd.C_below HR0_2.out HB.out) | (with_reducible refine Kd.C_alloc ?_ _) | (with_reducible refine Kd.C_drewN ?_ _) | (with_reducible refine Kd.C_drew ?_))); (case side2 => exact HC0_2.out); rintro e w27 ⟨b_q105, rfl, hb, hgo⟩; refine ⟨_, rfl, ?_⟩; have n0_ := Q9a.mk (kB (g := gb101) (o := .cells #[.int .i64 a0_0, .int .i64 a0_1, .slice A0_2 l0_2.length c0_2] 24 (0, 0)) (by (with_reducible repeat (first | refine kN ?_ _ | refine kD ?_ | refine kA ?_ _)); exact BK101.out) hb); have n1_ := Q9a.mk (bP (by repeat (first | (with_reducible first | exact HB.out | apply bA | apply bN | apply bD | refine bS ?_ GE101.out) | exact HB.out)) hb); clear BK101; clear HB; have BK101 := n0_; have HB := n1_; clear n0_ n1_; (try clear hb); (try clear hb2); (try clear hk); (try clear hi); (try simp only [gfW_none, gfW_some]); have HBZ := HB; have HRn_ := Q9a.mk (Kd.C_below HR0_2.out HB.out); clear HR0_2; have HR0_2 := HRn_; clear HRn_; clear HB; obtain ⟨wz, rfl⟩ : ∃ z_ : World, z_ = w := ⟨_, rfl⟩; obtain ⟨w, rfl⟩ : ∃ z_ : World, z_ = w27 := ⟨_, rfl⟩; have HB := Q9a.mk (Below.refl w.heap.size w); have HG_q105 := Q9a.mk (hgo : GFok w b_q105 q105); clear hgo) | ((with_reducible refine gate_callee (f := 24) rfl ?_); refine goesL_ (some 28) rfl rfl Try.func24 (by kernel_rfl) rfl #[.pointer (some ⟨b_q105, 0, none⟩), .int .i64 a1, .int .i64 a2] rfl (by (try simp only [List.map_toArray, List.map_cons, List.map_nil]); first | done | rfl | (simp only [List.length_drop, List.length_take]; rfl)) ?_; (with_reducible refine (dlog_Solve.calls b_q105 q105 a1 a2 t106 t107 _ ?side1 A13.out).mono ?_); (case side1 => exact GFok.belowT HG_q105.out (by repeat (first | (with_reducible first | exact HB.out | apply bA | apply bN | apply bD | refine bS ?_ GE101.out) | exact HB.out))); rintro e w28 ⟨rfl, hb⟩; refine ⟨_, rfl, ?_⟩; have n0_ := Q9a.mk (kB (g := gb101) (o := .cells #[.int .i64 a0_0, .int .i64 a0_1, .slice A0_2 l0_2.length c0_2] 24 (0, 0)) (by (with_reducible repeat (first | refine kN ?_ _ | refine kD ?_ | refine kA ?_ _)); exact BK101.out) hb); have n1_ := Q9a.mk (bP (by repeat (first | (with_reducible first | exact HB.out | apply bA | apply bN | apply bD | refine bS ?_ GE101.out) | exact HB.out)) hb); clear BK101; clear HB; have BK101 := n0_; have HB := n1_; clear n0_ n1_; (try clear hb); (try clear hb2); (try clear hk); (try clear hi); have hcz29_0 : w28.cell? ⟨gb101, 0, none⟩ = some (.int .i64 a0_0) := (kC BK101.out 0).trans rfl; have hcz29_1 : w28.cell? ⟨gb101, 1, none⟩ = some (.int .i64 a0_1) := (kC BK101.out 1).trans rfl; have hcz29_2 : w28.cell? ⟨gb101, 2, none⟩ = some (.slice A0_2 l0_2.length c0_2) := (kC BK101.out 2).trans rfl; have hfz29_0 := kF BK101.out 0; have hfz29_1 := kF BK101.out 1; have hfz29_2 := kF BK101.out 2) | ((with_reducible refine gate_callee (f := 25) rfl ?_); refine goesL_ (some 35) rfl rfl Try.func25 (by kernel_rfl) rfl #[.agg #[.int .i64 a0_0, .int .i64 a0_1, .slice A0_2 l0_2.length c0_2], .int .i64 a1, .int .i64 a2] rfl (by (try simp only [List.map_toArray, List.map_cons, List.map_nil]); first | done | rfl | (simp only [List.length_drop, List.length_take]; rfl)) ?_; (with_reducible refine (r8Solve.calls k a0_0 a0_1 _ _ l0_2 a1 a2 t108 t109 _ ?side1 ?side2 A14.out).mono ?_); (case side1 => repeat (first | exact (Kd.C_below HR0_2.out HB.out) | (with_reducible refine Kd.C_alloc ?_ _) | (with_reducible refine Kd.C_drewN ?_ _) | (with_reducible refine Kd.C_drew ?_))); (case side2 => exact HC0_2.out); rintro e w30 ⟨rfl, hb⟩; refine ⟨_, rfl, ?_⟩; have n0_ := Q9a.mk (kB (g := gb101) (o := .cells #[.int .i64 a0_0, .int .i64 a0_1, .slice A0_2 l0_2.length c0_2] 24 (0, 0)) (by (with_reducible repeat (first | refine kN ?_ _ | refine kD ?_ | refine kA ?_ _)); exact BK101.out) hb); have n1_ := Q9a.mk (bP (by repeat (first | (with_reducible first | exact HB.out | apply bA | apply bN | apply bD | refine bS ?_ GE101.out) | exact HB.out)) hb); clear BK101; clear HB; have BK101 := n0_; have HB := n1_; clear n0_ n1_; (try clear hb); (try clear hb2); (try clear hk); (try clear hi)))
     go_ret
     exact ⟨by first | rfl | (simp [eN, eS] <;> rfl) | (simp [*, eN, eS] <;> rfl), belowZ HBZ.out (by repeat (first | (with_reducible first | exact HB.out | apply bA | apply bN | apply bD | refine bS ?_ GE101.out) | exact HB.out))⟩
   ·rw [if_neg c15] at H
    have c15b0 : (t106 == t108) = false := beq_eq_false_iff_ne.mpr c15
    have c15b1 : (t106 != t108) = true := bne_iff_ne.mpr c15
    obtain rfl := Option.some.inj H
    go_enter Try.func7, Try.ntmps7
    go_wp2_with (first | ((with_reducible refine gate_dst (N := 3) rfl ?_); refine box_event ?hg (N := 3) ?hd (cs := #[.int .i64 a0_0, .int .i64 a0_1, .slice A0_2 l0_2.length c0_2]) (t := 24) ?hr ?_; (case hd => rfl); (case hg => rfl); (case hr => first | (go_simp; done) | (go_simp; rfl)); intro gb101 hg w31 hbox hb; have n0_ := Q9a.mk (bP (by repeat (first | (with_reducible first | exact HB.out | apply bA | apply bN | apply bD) | exact HB.out)) hb); have n1_ := Q9a.mk (hbox); have n2_ := Q9a.mk ((by rw [hg]; exact (bZ (by repeat (first | (with_reducible first | exact HB.out | apply bA | apply bN | apply bD) | exact HB.out))) : w.heap.size ≤ gb101)); have n3_ := Q9a.mk ((by rw [hg]; exact (bZ (by repeat (first | (with_reducible first | exact HB.out | apply bA | apply bN | apply bD) | exact HB.out))) : w.heap.size ≤ gb101)); clear HB; have HB := n0_; have BK101 := n1_; have GW101 := n2_; have GE101 := n3_; clear n0_ n1_ n2_ n3_; clear hb hbox hg; have hcz32_0 : w31.cell? ⟨gb101, 0, none⟩ = some (.int .i64 a0_0) := (kC BK101.out 0).trans rfl; have hcz32_1 : w31.cell? ⟨gb101, 1, none⟩ = some (.int .i64 a0_1) := (kC BK101.out 1).trans rfl; have hcz32_2 : w31.cell? ⟨gb101, 2, none⟩ = some (.slice A0_2 l0_2.length c0_2) := (kC BK101.out 2).trans rfl; have hfz32_0 := kF BK101.out 0; have hfz32_1 := kF BK101.out 1; have hfz32_2 := kF BK101.out 2) | ((with_reducible refine gate_callee (f := 13) rfl ?_); refine goesL_ (some 18) rfl rfl Try.func13 (by kernel_rfl) rfl #[.agg #[.int .i64 a0_0, .int .i64 a0_1, .slice A0_2 l0_2.length c0_2]] rfl (by (try simp only [List.map_toArray, List.map_cons, List.map_nil]); first | done | rfl | (simp only [List.length_drop, List.length_take]; rfl)) ?_; (with_reducible refine (l8open.calls a0_0 a0_1 _ _ l0_2 (some q105) false t104 _ ?side1 ?side2 A4.out).mono ?_); (case side1 => repeat (first | exact (Kd.C_below HR0_2.out HB.out) | (with_reducible refine Kd.C_alloc ?_ _) | (with_reducible refine Kd.C_drewN ?_ _) | (with_reducible refine Kd.C_drew ?_))); (case side2 => exact HC0_2.out); rintro e w33 ⟨b_q105, rfl, hb, hgo⟩; refine ⟨_, rfl, ?_⟩; have n0_ := Q9a.mk (kB (g := gb101) (o := .cells #[.int .i64 a0_0, .int .i64 a0_1, .slice A0_2 l0_2.length c0_2] 24 (0, 0)) (by (with_reducible repeat (first | refine kN ?_ _ | refine kD ?_ | refine kA ?_ _)); exact BK101.out) hb); have n1_ := Q9a.mk (bP (by repeat (first | (with_reducible first | exact HB.out | apply bA | apply bN | apply bD | refine bS ?_ GE101.out) | exact HB.out)) hb); clear BK101; clear HB; have BK101 := n0_; have HB := n1_; clear n0_ n1_; (try clear hb); (try clear hb2); (try clear hk); (try clear hi); (try simp only [gfW_none, gfW_some]); have HBZ := HB; have HRn_ := Q9a.mk (Kd.C_below HR0_2.out HB.out); clear HR0_2; have HR0_2 := HRn_; clear HRn_; clear HB; obtain ⟨wz, rfl⟩ : ∃ z_ : World, z_ = w := ⟨_, rfl⟩; obtain ⟨w, rfl⟩ : ∃ z_ : World, z_ = w33 := ⟨_, rfl⟩; have HB := Q9a.mk (Below.refl w.heap.size w); have HG_q105 := Q9a.mk (hgo : GFok w b_q105 q105); clear hgo) | ((with_reducible refine gate_callee (f := 24) rfl ?_); refine goesL_ (some 28) rfl rfl Try.func24 (by kernel_rfl) rfl #[.pointer (some ⟨b_q105, 0, none⟩), .int .i64 a1, .int .i64 a2] rfl (by (try simp only [List.map_toArray, List.map_cons, List.map_nil]); first | done | rfl | (simp only [List.length_drop, List.length_take]; rfl)) ?_; (with_reducible refine (dlog_Solve.calls b_q105 q105 a1 a2 t106 t107 _ ?side1 A13.out).mono ?_); (case side1 => exact GFok.belowT HG_q105.out (by repeat (first | (with_reducible first | exact HB.out | apply bA | apply bN | apply bD | refine bS ?_ GE101.out) | exact HB.out))); rintro e w34 ⟨rfl, hb⟩; refine ⟨_, rfl, ?_⟩; have n0_ := Q9a.mk (kB (g := gb101) (o := .cells #[.int .i64 a0_0, .int .i64 a0_1, .slice A0_2 l0_2.length c0_2] 24 (0, 0)) (by (with_reducible repeat (first | refine kN ?_ _ | refine kD ?_ | refine kA ?_ _)); exact BK101.out) hb); have n1_ := Q9a.mk (bP (by repeat (first | (with_reducible first | exact HB.out | apply bA | apply bN | apply bD | refine bS ?_ GE101.out) | exact HB.out)) hb); clear BK101; clear HB; have BK101 := n0_; have HB := n1_; clear n0_ n1_; (try clear hb); (try clear hb2); (try clear hk); (try clear hi); have hcz35_0 : w34.cell? ⟨gb101, 0, none⟩ = some (.int .i64 a0_0) := (kC BK101.out 0).trans rfl; have hcz35_1 : w34.cell? ⟨gb101, 1, none⟩ = some (.int .i64 a0_1) := (kC BK101.out 1).trans rfl; have hcz35_2 : w34.cell? ⟨gb101, 2, none⟩ = some (.slice A0_2 l0_2.length c0_2) := (kC BK101.out 2).trans rfl; have hfz35_0 := kF BK101.out 0; have hfz35_1 := kF BK101.out 1; have hfz35_2 := kF BK101.out 2) | ((with_reducible refine gate_callee (f := 25) rfl ?_); refine goesL_ (some 35) rfl rfl Try.func25 (by kernel_rfl) rfl #[.agg #[.int .i64 a0_0, .int .i64 a0_1, .slice A0_2 l0_2.length c0_2], .int .i64 a1, .int .i64 a2] rfl (by (try simp only [List.map_toArray, List.map_cons, List.map_nil]); first | done | rfl | (simp only [List.length_drop, List.length_take]; rfl)) ?_; (with_reducible refine (r8Solve.calls k a0_0 a0_1 _ _ l0_2 a1 a2 t108 t109 _ ?side1 ?side2 A14.out).mono ?_); (case side1 => repeat (first | exact (Kd.C_below HR0_2.out HB.out) | (with_reducible refine Kd.C_alloc ?_ _) | (with_reducible refine Kd.C_drewN ?_ _) | (with_reducible refine Kd.C_drew ?_))); (case side2 => exact HC0_2.out); rintro e w36 ⟨rfl, hb⟩; refine ⟨_, rfl, ?_⟩; have n0_ := Q9a.mk (kB (g := gb101) (o := .cells #[.int .i64 a0_0, .int .i64 a0_1, .slice A0_2 l0_2.length c0_2] 24 (0, 0)) (by (with_reducible repeat (first | refine kN ?_ _ | refine kD ?_ | refine kA ?_ _)); exact BK101.out) hb); have n1_ := Q9a.mk (bP (by repeat (first | (with_reducible first | exact HB.out | apply bA | apply bN | apply bD | refine bS ?_ GE101.out) | exact HB.out)) hb); clear BK101; clear HB; have BK101 := n0_; have HB := n1_; clear n0_ n1_; (try clear hb); (try clear hb2); (try clear hk); (try clear hi)))
    go_ret
    exact ⟨by first | rfl | (simp [eN, eS] <;> rfl) | (simp [*, eN, eS] <;> rfl), belowZ HBZ.out (by repeat (first | (with_reducible first | exact HB.out | apply bA | apply bN | apply bD | refine bS ?_ GE101.out) | exact HB.out))⟩
end
end Go.Proofs.Ytbohbfggmnjpdaa.P
end
-- Q5
section
namespace Go.Proofs.Ytbohbfggmnjpdaa.Pl
open Go.RowKit Go.Proofs.Ytbohbfggmnjpdaa.P Go.Proofs.Ytbohbfggmnjpdaa.Hand Go.Proofs.YtbohbfggmnjpdaaW.PrintWords
variable {G : GFv} {P M : Int} {mod : List Int}
open Classical in
noncomputable def solveR (G : GFv) (b x : Int) : Int × Int := if G.el b = 0 ∨ G.el x = 0 then (0, 7) else solveV G b x
theorem el_ne {G : GFv} {x : Int} : G.el x ≠ 0 ↔ G.is x ∧ x ≠ 0 := by
 rw [ne_eq, G.el_eq_zero]
 constructor
 ·intro h
  have h1 : G.is x := Classical.byContradiction fun hn => h (by unfold Cw.GFv.inn; rw [if_neg hn])
  exact ⟨h1, fun h0 => h (by rw [G.inn_of h1]; exact h0)⟩
 ·rintro ⟨h1, h2⟩ h
  rw [G.inn_of h1] at h
  exact h2 h
theorem solve_f (G : GFv) (b x : Int) : dlog_Solve.f G b x = some (solveR G b x) := by
 classical
 unfold dlog_Solve.f solveR
 by_cases hb : G.el b = 0
 ·have h1 : ¬ G.is b ∨ b = 0 := Classical.byContradiction fun hn => el_ne.2 ⟨Classical.byContradiction fun h => hn (Or.inl h), fun h => hn (Or.inr h)⟩ hb
  rw [if_pos h1, if_pos (Or.inl hb)]
 have hb' := el_ne.1 hb
 rw [if_neg (fun h => h.elim (fun h => h hb'.1) hb'.2)]
 by_cases hx : G.el x = 0
 ·have h1 : ¬ G.is x ∨ x = 0 := Classical.byContradiction fun hn => el_ne.2 ⟨Classical.byContradiction fun h => hn (Or.inl h), fun h => hn (Or.inr h)⟩ hx
  rw [if_pos h1, if_pos (Or.inr hx)]
 have hx' := el_ne.1 hx
 rw [if_neg (fun h => h.elim (fun h => h hx'.1) hx'.2)]
 obtain ⟨o, ho⟩ := Cw.ord_ex hb
 obtain ⟨l, _, hev⟩ := order08_ord G b ho
 obtain ⟨ko, hk⟩ := hev.rounds
 have hlt := ord_lt G ho
 have hq := G.q_le
 rw [if_pos ⟨o, ho, by omega, ko, ints l, hk⟩, if_neg (fun h => h.elim hb hx)]
theorem refSolve_loop (h : Is G P M mod) (b x : Int) {o : Nat} (ho : Cw.IsOrd (G.el b) o) : ∀ e n, n + e = G.q → (∀ t, t < n → Cw.pw (G.el b) t ≠ G.el x) → Ev (fun k => r8Solve.l0 k (G.inn b) (G.inn x) (G.num (Cw.pw (G.el b) n)) (n : Int) P M mod) (solveV G b x) := by
 intro e
 have hq := G.q_le
 have hlt := ord_lt G ho
 have hq2 := G.q_ge
 induction e with
 | zero =>
  intro n hn hno
  obtain rfl : n = G.q := by omega
  have hs : solveV G b x = (0, 11) := solveV_none (fun s hs => by
   have hm := Nat.mod_lt s ho.1
   refine hno (s % o) (by omega) ?_
   rw [← hs]
   have e1 : Cw.pw (G.el b) s = Cw.pw (G.el b) (o * (s / o) + s % o) := by rw [Nat.div_add_mod]
   rw [e1, Cw.pw_add, Cw.pw_mul, ho.pow_one, Cw.one_pw, Cw.one_mul])
  rw [hs]
  exact Ev.step (fun k => by simp only [r8Solve.l0]; rfl) (Ev.bind (is_order04 h) (Ev.congr (fun k => if_neg (Int.lt_irrefl _)) (Ev.now _)))
 | succ e ih =>
  intro n hn hno
  have hc : (n : Int) < (G.q : Int) := by omega
  have hne : n + 1 + e = G.q := by omega
  have hn1 : wrap64 ((n : Int) + 1) = ((n + 1 : Nat) : Int) := by rw [Pl.w64 (by omega) (by omega)]; rfl
  refine Ev.step (fun k => by simp only [r8Solve.l0]; rfl) (Ev.bind (is_order04 h) (Ev.congr (fun k => if_pos hc) ?_))
  by_cases he : Cw.pw (G.el b) n = G.el x
  ·rw [solveV_found he hno]
   exact Ev.congr (fun k => if_pos (by rw [he, G.num_el])) (Ev.now _)
  ·have hne' : ¬ G.num (Cw.pw (G.el b) n) = G.inn x := by
    rw [← G.num_el]
    exact fun h => he (G.num_inj h)
   have hm := is_mul h (G.num (Cw.pw (G.el b) n)) (G.inn b)
   have e1 : G.mul (G.num (Cw.pw (G.el b) n)) (G.inn b) = G.num (Cw.pw (G.el b) (n + 1)) := by
    unfold Cw.GFv.mul
    rw [G.el_num, G.el_inn, Cw.pw_succ]
   rw [e1] at hm
   refine Ev.congr (fun k => if_neg hne') (Ev.bind hm ?_)
   rw [hn1]
   refine ih (n + 1) hne (fun t ht => ?_)
   by_cases htn : t = n
   ·rw [htn]; exact he
   ·exact hno t (Nat.lt_of_le_of_ne (Nat.le_of_lt_succ ht) htn)
theorem refSolve (h : Is G P M mod) (b x : Int) : Ev (fun k => r8Solve.f k P M mod b x) (solveR G b x) := by
 classical
 have bad : Ev (fun k => r8Solve.j0 k (G.inn b) (G.inn x) true P M mod) (0, 7) := by
  refine Ev.step (f := fun _ => some _) (fun k => ?_) (Ev.now _)
  simp only [r8Solve.j0]
  rfl
 unfold solveR
 refine Ev.bind (is_in h b) (Ev.bind (is_in h x) ?_)
 by_cases hb : G.el b = 0
 ·rw [if_pos (Or.inl hb)]
  exact Ev.congr (fun k => if_pos (G.el_eq_zero.1 hb)) bad
 refine Ev.congr (fun k => if_neg (fun h => hb (G.el_eq_zero.2 h))) ?_
 by_cases hx : G.el x = 0
 ·rw [if_pos (Or.inr hx), show (G.inn x == 0) = true from beq_iff_eq.2 (G.el_eq_zero.1 hx)]
  exact bad
 rw [if_neg (fun h => h.elim hb hx), show (G.inn x == 0) = false from beq_eq_false_iff_ne.2 (fun h => hx (G.el_eq_zero.2 h))]
 obtain ⟨o, ho⟩ := Cw.ord_ex hb
 have hl := refSolve_loop h b x ho G.q 0 (by omega) (fun t ht => by omega)
 rw [Cw.pw_zero, G.num_one] at hl
 exact Ev.step (fun k => by simp only [r8Solve.j0]; rw [if_neg Bool.false_ne_true]; rfl) hl
end Go.Proofs.Ytbohbfggmnjpdaa.Pl
end
