/- What dlogZech_holds needs: texts Pa7, Pa8, Gs0, Gs1, GmL, Pa1, GmA, D1, D2, Nl, put together. -/
import Derived.Test.YtbohbfggmnjpdaaKLZ6
set_option linter.unusedVariables false
set_option linter.unusedSimpArgs false
-- Pa7
section
namespace Go.Proofs.Ytbohbfggmnjpdaa.P
noncomputable section
open Go.RowKit Go.Proofs.Ytbohbfggmnjpdaa.Hand Go.Proofs.YtbohbfggmnjpdaaW.PrintWords Go.Proofs.YtbohbfggmnjpdaaW.PrintLast Go.Proofs.YtbohbfggmnjpdaaW.PrintMore
set_option linter.unusedVariables false
set_option linter.unusedSimpArgs false
mutual
def r8Solve.j0 : Nat → Int → Int → Bool → Int → Int → List Int → Option (Int × Int)
 | 0, _, _, _, _, _, _ => none
 | k + 1, x1, x2, x21, x259000, x259001, x259002 => if x21 = true then (some (0, 7)) else (r8Solve.l0 k x1 x2 1 0 x259000 x259001 x259002)
def r8Solve.l0 : Nat → Int → Int → Int → Int → Int → Int → List Int → Option (Int × Int)
 | 0, _, _, _, _, _, _, _ => none
 | k + 1, x1, x2, x8, x9, x259000, x259001, x259002 => (r4Order.f k x259000 x259001 x259002).bind fun t261 => (if x9 < t261 then (if x8 = x2 then (some (x9, 0)) else ((r4Mul.f k x259000 x259001 x259002 x8 x1).bind fun t262 => (r8Solve.l0 k x1 x2 t262 (wrap64 (x9 + 1)) x259000 x259001 x259002))) else (some (0, 11)))
end
def r8Solve.f (k : Nat) (a0_0 : Int) (a0_1 : Int) (l0_2 : List Int) (a1 : Int) (a2 : Int) : Option (Int × Int) := (r4In.f k a0_0 a0_1 l0_2 a1).bind fun t259 => ((r4In.f k a0_0 a0_1 l0_2 a2).bind fun t260 => (if t259 = 0 then (r8Solve.j0 k t259 t260 true a0_0 a0_1 l0_2) else (r8Solve.j0 k t259 t260 (t260 == 0) a0_0 a0_1 l0_2)))
set_option maxHeartbeats 8000000 in
set_option maxRecDepth 100000 in
theorem r8Solve.calls (k : Nat) (a0_0 : Int) (a0_1 : Int) (A0_2 : Option Addr) (c0_2 : Nat) (l0_2 : List Int) (a1 : Int) (a2 : Int) (r1 : Int) (r2 : Int) (w : World) (hr0_2 : Kd.C (Kd.int .i64) w A0_2 l0_2.length l0_2) (hc0_2 : l0_2.length ≤ c0_2) (h : r8Solve.f k a0_0 a0_1 l0_2 a1 a2 = some (r1, r2)) :
  Calls Try.prog 25 #[.agg #[.int .i64 a0_0, .int .i64 a0_1, .slice A0_2 l0_2.length c0_2], .int .i64 a1, .int .i64 a2] w fun e w' => e = .returned (.tuple #[.int .i64 r1, .int .i64 r2]) ∧ Below w.heap.size w w' := by
 have hu24 := Try.underlying24
 have HR0_2 := Q9a.mk hr0_2
 have HC0_2 := Q9a.mk hc0_2
 clear hr0_2 hc0_2
 have HB := Q9a.mk (Below.refl w.heap.size w)
 have H : ((r4In.f k a0_0 a0_1 l0_2 a1).bind fun t259 => ((r4In.f k a0_0 a0_1 l0_2 a2).bind fun t260 => (if t259 = 0 then (r8Solve.j0 k t259 t260 true a0_0 a0_1 l0_2) else (r8Solve.j0 k t259 t260 (t260 == 0) a0_0 a0_1 l0_2)))) = some (r1, r2) := h
 clear h
 replace H := Option.bind_eq_some_iff.mp H
 obtain ⟨t259, A40, H⟩ := H
 replace H : ((r4In.f k a0_0 a0_1 l0_2 a2).bind fun t260 => (if t259 = 0 then (r8Solve.j0 k t259 t260 true a0_0 a0_1 l0_2) else (r8Solve.j0 k t259 t260 (t260 == 0) a0_0 a0_1 l0_2))) = some (r1, r2) := H
 have A4 := Q9a.mk A40
 clear A40
 replace H := Option.bind_eq_some_iff.mp H
 obtain ⟨t260, A50, H⟩ := H
 replace H : (if t259 = 0 then (r8Solve.j0 k t259 t260 true a0_0 a0_1 l0_2) else (r8Solve.j0 k t259 t260 (t260 == 0) a0_0 a0_1 l0_2)) = some (r1, r2) := H
 have A5 := Q9a.mk A50
 clear A50
 have HC6 := Q9a.mk H
 clear H
 go_enter Try.func25, Try.ntmps25
 go_upto_region 3 with (first | ((with_reducible refine gate_dst (N := 3) rfl ?_); refine box_event ?hg (N := 3) ?hd (cs := #[.int .i64 a0_0, .int .i64 a0_1, .slice A0_2 l0_2.length c0_2]) (t := 24) ?hr ?_; (case hd => rfl); (case hg => rfl); (case hr => first | (go_simp; done) | (go_simp; rfl)); intro gb258 hg w7 hbox hb; have n0_ := Q9a.mk (bP (by repeat (first | (with_reducible first | exact HB.out | apply bA | apply bN | apply bD) | exact HB.out)) hb); have n1_ := Q9a.mk (hbox); have n2_ := Q9a.mk ((by rw [hg]; exact (bZ (by repeat (first | (with_reducible first | exact HB.out | apply bA | apply bN | apply bD) | exact HB.out))) : w.heap.size ≤ gb258)); have n3_ := Q9a.mk ((by rw [hg]; exact (bZ (by repeat (first | (with_reducible first | exact HB.out | apply bA | apply bN | apply bD) | exact HB.out))) : w.heap.size ≤ gb258)); clear HB; have HB := n0_; have BK258 := n1_; have GW258 := n2_; have GE258 := n3_; clear n0_ n1_ n2_ n3_; clear hb hbox hg; have hcz8_0 : w7.cell? ⟨gb258, 0, none⟩ = some (.int .i64 a0_0) := (kC BK258.out 0).trans rfl; have hcz8_1 : w7.cell? ⟨gb258, 1, none⟩ = some (.int .i64 a0_1) := (kC BK258.out 1).trans rfl; have hcz8_2 : w7.cell? ⟨gb258, 2, none⟩ = some (.slice A0_2 l0_2.length c0_2) := (kC BK258.out 2).trans rfl; have hfz8_0 := kF BK258.out 0; have hfz8_1 := kF BK258.out 1; have hfz8_2 := kF BK258.out 2) | ((with_reducible refine gate_callee (f := 26) rfl ?_); refine goesL_ (some 12) rfl rfl Try.func26 (by kernel_rfl) rfl #[.agg #[.int .i64 a0_0, .int .i64 a0_1, .slice A0_2 l0_2.length c0_2], .int .i64 a1] rfl (by (try simp only [List.map_toArray, List.map_cons, List.map_nil]); first | done | rfl | (simp only [List.length_drop, List.length_take]; rfl)) ?_; (with_reducible refine (r4In.calls k a0_0 a0_1 _ _ l0_2 a1 t259 _ ?side1 ?side2 A4.out).mono ?_); (case side1 => repeat (first | exact (Kd.C_below HR0_2.out HB.out) | (with_reducible refine Kd.C_alloc ?_ _) | (with_reducible refine Kd.C_drewN ?_ _) | (with_reducible refine Kd.C_drew ?_))); (case side2 => exact HC0_2.out); rintro e w9 ⟨rfl, hb⟩; refine ⟨_, rfl, ?_⟩; have n0_ := Q9a.mk (kB (g := gb258) (o := .cells #[.int .i64 a0_0, .int .i64 a0_1, .slice A0_2 l0_2.length c0_2] 24 (0, 0)) (by (with_reducible repeat (first | refine kN ?_ _ | refine kD ?_ | refine kA ?_ _)); exact BK258.out) hb); have n1_ := Q9a.mk (bP (by repeat (first | (with_reducible first | exact HB.out | apply bA | apply bN | apply bD | refine bS ?_ GE258.out) | exact HB.out)) hb); clear BK258; clear HB; have BK258 := n0_; have HB := n1_; clear n0_ n1_; (try clear hb); (try clear hb2); (try clear hk); (try clear hi); have hcz10_0 : w9.cell? ⟨gb258, 0, none⟩ = some (.int .i64 a0_0) := (kC BK258.out 0).trans rfl; have hcz10_1 : w9.cell? ⟨gb258, 1, none⟩ = some (.int .i64 a0_1) := (kC BK258.out 1).trans rfl; have hcz10_2 : w9.cell? ⟨gb258, 2, none⟩ = some (.slice A0_2 l0_2.length c0_2) := (kC BK258.out 2).trans rfl; have hfz10_0 := kF BK258.out 0; have hfz10_1 := kF BK258.out 1; have hfz10_2 := kF BK258.out 2) | ((with_reducible refine gate_callee (f := 26) rfl ?_); refine goesL_ (some 15) rfl rfl Try.func26 (by kernel_rfl) rfl #[.agg #[.int .i64 a0_0, .int .i64 a0_1, .slice A0_2 l0_2.length c0_2], .int .i64 a2] rfl (by (try simp only [List.map_toArray, List.map_cons, List.map_nil]); first | done | rfl | (simp only [List.length_drop, List.length_take]; rfl)) ?_; (with_reducible refine (r4In.calls k a0_0 a0_1 _ _ l0_2 a2 t260 _ ?side1 ?side2 A5.out).mono ?_); (case side1 => repeat (first | exact (Kd.C_below HR0_2.out HB.out) | (with_reducible refine Kd.C_alloc ?_ _) | (with_reducible refine Kd.C_drewN ?_ _) | (with_reducible refine Kd.C_drew ?_))); (case side2 => exact HC0_2.out); rintro e w11 ⟨rfl, hb⟩; refine ⟨_, rfl, ?_⟩; have n0_ := Q9a.mk (kB (g := gb258) (o := .cells #[.int .i64 a0_0, .int .i64 a0_1, .slice A0_2 l0_2.length c0_2] 24 (0, 0)) (by (with_reducible repeat (first | refine kN ?_ _ | refine kD ?_ | refine kA ?_ _)); exact BK258.out) hb); have n1_ := Q9a.mk (bP (by repeat (first | (with_reducible first | exact HB.out | apply bA | apply bN | apply bD | refine bS ?_ GE258.out) | exact HB.out)) hb); clear BK258; clear HB; have BK258 := n0_; have HB := n1_; clear n0_ n1_; (try clear hb); (try clear hb2); (try clear hk); (try clear hi)))
 (try simp only [Act.put, sz1, sz2, sz3])
 go_cut [21] (fun v21 wc => ∃ (kq : Nat) (x21_5 : Bool), v21 = .bool x21_5 ∧ Q9a (r8Solve.j0 kq t259 t260 x21_5 a0_0 a0_1 l0_2 = some (r1, r2)) ∧ Q9a (kq ≤ k) ∧ Q9a (wc.heap[gb258]? = some (.cells #[.int .i64 a0_0, .int .i64 a0_1, (.slice A0_2 l0_2.length c0_2)] 24 (0, 0))) ∧ Q9a (Below w.heap.size w wc))
 case first =>
  have H := HC6.out
  clear HC6
  by_cases c12 : t259 = 0
  ·rw [if_pos c12] at H
   have c12b0 : (t259 == 0) = true := beq_iff_eq.mpr c12
   have c12b1 : (t259 != 0) = false := bne_eq_false_iff_eq.mpr c12
   clear c12
   (first | rw [c12b0] | (simp only [i64_w, i32_w]; rw [c12b0]) | skip)
   have H' := Q9a.mk H
   clear H
   go_wp2
   go_meet
   case rel => exact ⟨_, (true), (by first | rfl | (simp; done) | (simp [*]; done)), H', ⟨by first | omega | exact Nat.le_refl _⟩, ⟨by (with_reducible repeat (first | refine kN ?_ _ | refine kD ?_ | refine kA ?_ _)); exact BK258.out⟩, ⟨by repeat (first | (with_reducible first | exact HB.out | apply bA | apply bN | apply bD | refine bS ?_ GE258.out) | exact HB.out)⟩⟩
  ·rw [if_neg c12] at H
   have c12b0 : (t259 == 0) = false := beq_eq_false_iff_ne.mpr c12
   have c12b1 : (t259 != 0) = true := bne_iff_ne.mpr c12
   (first | rw [c12b0] | (simp only [i64_w, i32_w]; rw [c12b0]) | skip)
   have H' := Q9a.mk H
   clear H
   go_wp2
   go_meet
   case rel => exact ⟨_, ((t260 == 0)), (by first | rfl | (simp; done) | (simp [*]; done)), H', ⟨by first | omega | exact Nat.le_refl _⟩, ⟨by (with_reducible repeat (first | refine kN ?_ _ | refine kD ?_ | refine kA ?_ _)); exact BK258.out⟩, ⟨by repeat (first | (with_reducible first | exact HB.out | apply bA | apply bN | apply bD | refine bS ?_ GE258.out) | exact HB.out)⟩⟩
 case rest =>
  clear HC6
  try clear c1
  try clear c2
  try clear p2
  try clear c12
  try clear c12b0
  try clear c12b1
  try clear hcz10_0
  try clear hcz10_1
  try clear hcz10_2
  try clear hcz8_0
  try clear hcz8_1
  try clear hcz8_2
  try clear hfz10_0
  try clear hfz10_1
  try clear hfz10_2
  try clear hfz8_0
  try clear hfz8_1
  try clear hfz8_2
  obtain ⟨kq, x21_5, rfl, HA, HJ5, BK258, HB⟩ := hcut
  cases kq with
  | zero => exact absurd HA.out (by simp [r8Solve.j0])
  | succ kj5 =>
   have H := HA.out
   clear HA
   simp only [r8Solve.j0] at H
   by_cases c13 : x21_5 = true
   ·subst c13
    have H1 : (some (0, 7)) = some (r1, r2) := by rw [if_pos rfl] at H; exact H
    clear H
    have H := H1
    clear H1
    simp only [Option.some.injEq, Prod.mk.injEq] at H
    obtain ⟨rfl, rfl⟩ := H
    go_wp2
    go_ret2
    exact ⟨by first | rfl | (simp [eN, eS] <;> rfl) | (simp [*, eN, eS] <;> rfl), by repeat (first | (with_reducible first | exact HB.out | apply bA | apply bN | apply bD | refine bS ?_ GE258.out) | exact HB.out)⟩
   ·replace c13 := Bool.eq_false_iff.mpr c13
    subst c13
    have H1 : (r8Solve.l0 kj5 t259 t260 1 0 a0_0 a0_1 l0_2) = some (r1, r2) := by rw [if_neg (show ¬ (false = true) by decide)] at H; exact H
    clear H
    have H := H1
    clear H1
    have H' := Q9a.mk H
    clear H
    go_wp2
    go_loopg [8, 9] kj5 (fun kq v8 v9 w' => ∃ (x8_2 : Int) (x9_2 : Int), v8 = .int .i64 x8_2 ∧ v9 = .int .i64 x9_2 ∧ Q9a (r8Solve.l0 kq t259 t260 x8_2 x9_2 a0_0 a0_1 l0_2 = some (r1, r2)) ∧ Q9a (kq ≤ kj5) ∧ Q9a (w'.heap[gb258]? = some (.cells #[.int .i64 a0_0, .int .i64 a0_1, (.slice A0_2 l0_2.length c0_2)] 24 (0, 0))) ∧ Q9a (Below w.heap.size w w'))
    case atStart => exact ⟨(1), (0), (by first | rfl | (simp; done) | (simp [*]; done)), (by first | rfl | (simp; done) | (simp [*]; done)), H', ⟨Nat.le_refl _⟩, ⟨by (with_reducible repeat (first | refine kN ?_ _ | refine kD ?_ | refine kA ?_ _)); exact BK258.out⟩, ⟨by repeat (first | (with_reducible first | exact HB.out | apply bA | apply bN | apply bD | refine bS ?_ GE258.out) | exact HB.out)⟩⟩
    case round =>
     clear H'
     try clear c1
     try clear c2
     try clear p2
     try clear c12
     try clear c12b0
     try clear c12b1
     try clear c13
     try clear hcz10_0
     try clear hcz10_1
     try clear hcz10_2
     try clear hcz8_0
     try clear hcz8_1
     try clear hcz8_2
     try clear hfz10_0
     try clear hfz10_1
     try clear hfz10_2
     try clear hfz8_0
     try clear hfz8_1
     try clear hfz8_2
     try clear p2
     obtain ⟨x8_2, x9_2, rfl, rfl, HA, HK2, BK258, HB⟩ := hrel
     cases gk with
     | zero => exact absurd HA.out (by simp [r8Solve.l0])
     | succ k2 =>
      have H := HA.out
      clear HA
      simp only [r8Solve.l0] at H
      replace H := Option.bind_eq_some_iff.mp H
      obtain ⟨t261, A140, H⟩ := H
      replace H : (if x9_2 < t261 then (if x8_2 = t260 then (some (x9_2, 0)) else ((r4Mul.f k2 a0_0 a0_1 l0_2 x8_2 t259).bind fun t262 => (r8Solve.l0 k2 t259 t260 t262 (wrap64 (x9_2 + 1)) a0_0 a0_1 l0_2))) else (some (0, 11))) = some (r1, r2) := H
      have A14 := Q9a.mk A140
      clear A140
      by_cases c15 : x9_2 < t261
      ·rw [if_pos c15] at H
       have c15b0 : decide (x9_2 < t261) = true := decide_eq_true c15
       clear c15
       by_cases c16 : x8_2 = t260
       ·rw [if_pos c16] at H
        have c16b0 : (x8_2 == t260) = true := beq_iff_eq.mpr c16
        have c16b1 : (x8_2 != t260) = false := bne_eq_false_iff_eq.mpr c16
        clear c16
        simp only [Option.some.injEq, Prod.mk.injEq] at H
        obtain ⟨rfl, rfl⟩ := H
        have hcz17_0 : wr.cell? ⟨gb258, 0, none⟩ = some (.int .i64 a0_0) := (kC BK258.out 0).trans rfl
        have hcz17_1 : wr.cell? ⟨gb258, 1, none⟩ = some (.int .i64 a0_1) := (kC BK258.out 1).trans rfl
        have hcz17_2 : wr.cell? ⟨gb258, 2, none⟩ = some (.slice A0_2 l0_2.length c0_2) := (kC BK258.out 2).trans rfl
        have hfz17_0 := kF BK258.out 0
        have hfz17_1 := kF BK258.out 1
        have hfz17_2 := kF BK258.out 2
        go_wp2_with (first | ((with_reducible refine gate_callee (f := 33) rfl ?_); refine goesL_ (some 24) rfl rfl Try.func33 (by kernel_rfl) rfl #[.agg #[.int .i64 a0_0, .int .i64 a0_1, .slice A0_2 l0_2.length c0_2]] rfl (by (try simp only [List.map_toArray, List.map_cons, List.map_nil]); first | done | rfl | (simp only [List.length_drop, List.length_take]; rfl)) ?_; (with_reducible refine (r4Order.calls k2 a0_0 a0_1 _ _ l0_2 t261 _ ?side1 ?side2 A14.out).mono ?_); (case side1 => repeat (first | exact (Kd.C_below HR0_2.out HB.out) | (with_reducible refine Kd.C_alloc ?_ _) | (with_reducible refine Kd.C_drewN ?_ _) | (with_reducible refine Kd.C_drew ?_))); (case side2 => exact HC0_2.out); rintro e w18 ⟨rfl, hb⟩; refine ⟨_, rfl, ?_⟩; have n0_ := Q9a.mk (kB (g := gb258) (o := .cells #[.int .i64 a0_0, .int .i64 a0_1, .slice A0_2 l0_2.length c0_2] 24 (0, 0)) (by (with_reducible repeat (first | refine kN ?_ _ | refine kD ?_ | refine kA ?_ _)); exact BK258.out) hb); have n1_ := Q9a.mk (bP (by repeat (first | (with_reducible first | exact HB.out | apply bA | apply bN | apply bD | refine bS ?_ GE258.out) | exact HB.out)) hb); clear BK258; clear HB; have BK258 := n0_; have HB := n1_; clear n0_ n1_; (try clear hb); (try clear hb2); (try clear hk); (try clear hi)))
        go_ret2
        exact ⟨by first | rfl | (simp [eN, eS] <;> rfl) | (simp [*, eN, eS] <;> rfl), by repeat (first | (with_reducible first | exact HB.out | apply bA | apply bN | apply bD | refine bS ?_ GE258.out) | exact HB.out)⟩
       ·rw [if_neg c16] at H
        have c16b0 : (x8_2 == t260) = false := beq_eq_false_iff_ne.mpr c16
        have c16b1 : (x8_2 != t260) = true := bne_iff_ne.mpr c16
        replace H := Option.bind_eq_some_iff.mp H
        obtain ⟨t262, A190, H⟩ := H
        replace H : (r8Solve.l0 k2 t259 t260 t262 (wrap64 (x9_2 + 1)) a0_0 a0_1 l0_2) = some (r1, r2) := H
        have A19 := Q9a.mk A190
        clear A190
        have H' := Q9a.mk H
        clear H
        have hcz20_0 : wr.cell? ⟨gb258, 0, none⟩ = some (.int .i64 a0_0) := (kC BK258.out 0).trans rfl
        have hcz20_1 : wr.cell? ⟨gb258, 1, none⟩ = some (.int .i64 a0_1) := (kC BK258.out 1).trans rfl
        have hcz20_2 : wr.cell? ⟨gb258, 2, none⟩ = some (.slice A0_2 l0_2.length c0_2) := (kC BK258.out 2).trans rfl
        have hfz20_0 := kF BK258.out 0
        have hfz20_1 := kF BK258.out 1
        have hfz20_2 := kF BK258.out 2
        go_wp2_with (first | ((with_reducible refine gate_callee (f := 33) rfl ?_); refine goesL_ (some 24) rfl rfl Try.func33 (by kernel_rfl) rfl #[.agg #[.int .i64 a0_0, .int .i64 a0_1, .slice A0_2 l0_2.length c0_2]] rfl (by (try simp only [List.map_toArray, List.map_cons, List.map_nil]); first | done | rfl | (simp only [List.length_drop, List.length_take]; rfl)) ?_; (with_reducible refine (r4Order.calls k2 a0_0 a0_1 _ _ l0_2 t261 _ ?side1 ?side2 A14.out).mono ?_); (case side1 => repeat (first | exact (Kd.C_below HR0_2.out HB.out) | (with_reducible refine Kd.C_alloc ?_ _) | (with_reducible refine Kd.C_drewN ?_ _) | (with_reducible refine Kd.C_drew ?_))); (case side2 => exact HC0_2.out); rintro e w21 ⟨rfl, hb⟩; refine ⟨_, rfl, ?_⟩; have n0_ := Q9a.mk (kB (g := gb258) (o := .cells #[.int .i64 a0_0, .int .i64 a0_1, .slice A0_2 l0_2.length c0_2] 24 (0, 0)) (by (with_reducible repeat (first | refine kN ?_ _ | refine kD ?_ | refine kA ?_ _)); exact BK258.out) hb); have n1_ := Q9a.mk (bP (by repeat (first | (with_reducible first | exact HB.out | apply bA | apply bN | apply bD | refine bS ?_ GE258.out) | exact HB.out)) hb); clear BK258; clear HB; have BK258 := n0_; have HB := n1_; clear n0_ n1_; (try clear hb); (try clear hb2); (try clear hk); (try clear hi); have hcz22_0 : w21.cell? ⟨gb258, 0, none⟩ = some (.int .i64 a0_0) := (kC BK258.out 0).trans rfl; have hcz22_1 : w21.cell? ⟨gb258, 1, none⟩ = some (.int .i64 a0_1) := (kC BK258.out 1).trans rfl; have hcz22_2 : w21.cell? ⟨gb258, 2, none⟩ = some (.slice A0_2 l0_2.length c0_2) := (kC BK258.out 2).trans rfl; have hfz22_0 := kF BK258.out 0; have hfz22_1 := kF BK258.out 1; have hfz22_2 := kF BK258.out 2) | ((with_reducible refine gate_callee (f := 32) rfl ?_); refine goesL_ (some 35) rfl rfl Try.func32 (by kernel_rfl) rfl #[.agg #[.int .i64 a0_0, .int .i64 a0_1, .slice A0_2 l0_2.length c0_2], .int .i64 x8_2, .int .i64 t259] rfl (by (try simp only [List.map_toArray, List.map_cons, List.map_nil]); first | done | rfl | (simp only [List.length_drop, List.length_take]; rfl)) ?_; (with_reducible refine (r4Mul.calls k2 a0_0 a0_1 _ _ l0_2 x8_2 t259 t262 _ ?side1 ?side2 A19.out).mono ?_); (case side1 => repeat (first | exact (Kd.C_below HR0_2.out HB.out) | (with_reducible refine Kd.C_alloc ?_ _) | (with_reducible refine Kd.C_drewN ?_ _) | (with_reducible refine Kd.C_drew ?_))); (case side2 => exact HC0_2.out); rintro e w23 ⟨rfl, hb⟩; refine ⟨_, rfl, ?_⟩; have n0_ := Q9a.mk (kB (g := gb258) (o := .cells #[.int .i64 a0_0, .int .i64 a0_1, .slice A0_2 l0_2.length c0_2] 24 (0, 0)) (by (with_reducible repeat (first | refine kN ?_ _ | refine kD ?_ | refine kA ?_ _)); exact BK258.out) hb); have n1_ := Q9a.mk (bP (by repeat (first | (with_reducible first | exact HB.out | apply bA | apply bN | apply bD | refine bS ?_ GE258.out) | exact HB.out)) hb); clear BK258; clear HB; have BK258 := n0_; have HB := n1_; clear n0_ n1_; (try clear hb); (try clear hb2); (try clear hk); (try clear hi)))
        go_roundg k2
        case measure => have := HJ5.out; have := HK2.out; omega
        case rel => exact ⟨(t262), (wrap64 (x9_2 + 1)), (by first | rfl | (simp; done) | (simp [*]; done)), (by first | rfl | (simp; done) | (simp [*]; done)), H', ⟨by have := HJ5.out; have := HK2.out; omega⟩, ⟨by (with_reducible repeat (first | refine kN ?_ _ | refine kD ?_ | refine kA ?_ _)); exact BK258.out⟩, ⟨by repeat (first | (with_reducible first | exact HB.out | apply bA | apply bN | apply bD | refine bS ?_ GE258.out) | exact HB.out)⟩⟩
      ·rw [if_neg c15] at H
       have c15b0 : decide (x9_2 < t261) = false := decide_eq_false c15
       clear c15
       simp only [Option.some.injEq, Prod.mk.injEq] at H
       obtain ⟨rfl, rfl⟩ := H
       have hcz24_0 : wr.cell? ⟨gb258, 0, none⟩ = some (.int .i64 a0_0) := (kC BK258.out 0).trans rfl
       have hcz24_1 : wr.cell? ⟨gb258, 1, none⟩ = some (.int .i64 a0_1) := (kC BK258.out 1).trans rfl
       have hcz24_2 : wr.cell? ⟨gb258, 2, none⟩ = some (.slice A0_2 l0_2.length c0_2) := (kC BK258.out 2).trans rfl
       have hfz24_0 := kF BK258.out 0
       have hfz24_1 := kF BK258.out 1
       have hfz24_2 := kF BK258.out 2
       go_wp2_with (first | ((with_reducible refine gate_callee (f := 33) rfl ?_); refine goesL_ (some 24) rfl rfl Try.func33 (by kernel_rfl) rfl #[.agg #[.int .i64 a0_0, .int .i64 a0_1, .slice A0_2 l0_2.length c0_2]] rfl (by (try simp only [List.map_toArray, List.map_cons, List.map_nil]); first | done | rfl | (simp only [List.length_drop, List.length_take]; rfl)) ?_; (with_reducible refine (r4Order.calls k2 a0_0 a0_1 _ _ l0_2 t261 _ ?side1 ?side2 A14.out).mono ?_); (case side1 => repeat (first | exact (Kd.C_below HR0_2.out HB.out) | (with_reducible refine Kd.C_alloc ?_ _) | (with_reducible refine Kd.C_drewN ?_ _) | (with_reducible refine Kd.C_drew ?_))); (case side2 => exact HC0_2.out); rintro e w25 ⟨rfl, hb⟩; refine ⟨_, rfl, ?_⟩; have n0_ := Q9a.mk (kB (g := gb258) (o := .cells #[.int .i64 a0_0, .int .i64 a0_1, .slice A0_2 l0_2.length c0_2] 24 (0, 0)) (by (with_reducible repeat (first | refine kN ?_ _ | refine kD ?_ | refine kA ?_ _)); exact BK258.out) hb); have n1_ := Q9a.mk (bP (by repeat (first | (with_reducible first | exact HB.out | apply bA | apply bN | apply bD | refine bS ?_ GE258.out) | exact HB.out)) hb); clear BK258; clear HB; have BK258 := n0_; have HB := n1_; clear n0_ n1_; (try clear hb); (try clear hb2); (try clear hk); (try clear hi)))
       go_ret2
       exact ⟨by first | rfl | (simp [eN, eS] <;> rfl) | (simp [*, eN, eS] <;> rfl), by repeat (first | (with_reducible first | exact HB.out | apply bA | apply bN | apply bD | refine bS ?_ GE258.out) | exact HB.out)⟩
def r8Base.f (k : Nat) (a0_0 : Int) (a0_1 : Int) (l0_2 : List Int) (a1 : Int) : Option (Int) := (r4In.f k a0_0 a0_1 l0_2 a1).bind fun t266 => (if t266 = 0 then (some 7) else ((r8IsPrimitive.f k a0_0 a0_1 l0_2 a1).bind fun t267 => (if t267 = true then (some 0) else (some 5))))
set_option maxHeartbeats 8000000 in
set_option maxRecDepth 100000 in
theorem r8Base.calls (k : Nat) (a0_0 : Int) (a0_1 : Int) (A0_2 : Option Addr) (c0_2 : Nat) (l0_2 : List Int) (a1 : Int) (r : Int) (w : World) (hr0_2 : Kd.C (Kd.int .i64) w A0_2 l0_2.length l0_2) (hc0_2 : l0_2.length ≤ c0_2) (h : r8Base.f k a0_0 a0_1 l0_2 a1 = some r) :
  Calls Try.prog 52 #[.agg #[.int .i64 a0_0, .int .i64 a0_1, .slice A0_2 l0_2.length c0_2], .int .i64 a1] w fun e w' => e = .returned (.int .i64 r) ∧ Below w.heap.size w w' := by
 have hu24 := Try.underlying24
 have HR0_2 := Q9a.mk hr0_2
 have HC0_2 := Q9a.mk hc0_2
 clear hr0_2 hc0_2
 have HB := Q9a.mk (Below.refl w.heap.size w)
 have H : ((r4In.f k a0_0 a0_1 l0_2 a1).bind fun t266 => (if t266 = 0 then (some 7) else ((r8IsPrimitive.f k a0_0 a0_1 l0_2 a1).bind fun t267 => (if t267 = true then (some 0) else (some 5))))) = some r := h
 clear h
 replace H := Option.bind_eq_some_iff.mp H
 obtain ⟨t266, A30, H⟩ := H
 replace H : (if t266 = 0 then (some 7) else ((r8IsPrimitive.f k a0_0 a0_1 l0_2 a1).bind fun t267 => (if t267 = true then (some 0) else (some 5)))) = some r := H
 have A3 := Q9a.mk A30
 clear A30
 by_cases c4 : t266 = 0
 ·rw [if_pos c4] at H
  have c4b0 : (t266 == 0) = true := beq_iff_eq.mpr c4
  have c4b1 : (t266 != 0) = false := bne_eq_false_iff_eq.mpr c4
  clear c4
  obtain rfl := Option.some.inj H
  go_enter Try.func52, Try.ntmps52
  go_wp2_with (first | ((with_reducible refine gate_dst (N := 2) rfl ?_); refine box_event ?hg (N := 2) ?hd (cs := #[.int .i64 a0_0, .int .i64 a0_1, .slice A0_2 l0_2.length c0_2]) (t := 24) ?hr ?_; (case hd => rfl); (case hg => rfl); (case hr => first | (go_simp; done) | (go_simp; rfl)); intro gb265 hg w5 hbox hb; have n0_ := Q9a.mk (bP (by repeat (first | (with_reducible first | exact HB.out | apply bA | apply bN | apply bD) | exact HB.out)) hb); have n1_ := Q9a.mk (hbox); have n2_ := Q9a.mk ((by rw [hg]; exact (bZ (by repeat (first | (with_reducible first | exact HB.out | apply bA | apply bN | apply bD) | exact HB.out))) : w.heap.size ≤ gb265)); have n3_ := Q9a.mk ((by rw [hg]; exact (bZ (by repeat (first | (with_reducible first | exact HB.out | apply bA | apply bN | apply bD) | exact HB.out))) : w.heap.size ≤ gb265)); clear HB; have HB := n0_; have BK265 := n1_; have GW265 := n2_; have GE265 := n3_; clear n0_ n1_ n2_ n3_; clear hb hbox hg; have hcz6_0 : w5.cell? ⟨gb265, 0, none⟩ = some (.int .i64 a0_0) := (kC BK265.out 0).trans rfl; have hcz6_1 : w5.cell? ⟨gb265, 1, none⟩ = some (.int .i64 a0_1) := (kC BK265.out 1).trans rfl; have hcz6_2 : w5.cell? ⟨gb265, 2, none⟩ = some (.slice A0_2 l0_2.length c0_2) := (kC BK265.out 2).trans rfl; have hfz6_0 := kF BK265.out 0; have hfz6_1 := kF BK265.out 1; have hfz6_2 := kF BK265.out 2) | ((with_reducible refine gate_callee (f := 26) rfl ?_); refine goesL_ (some 7) rfl rfl Try.func26 (by kernel_rfl) rfl #[.agg #[.int .i64 a0_0, .int .i64 a0_1, .slice A0_2 l0_2.length c0_2], .int .i64 a1] rfl (by (try simp only [List.map_toArray, List.map_cons, List.map_nil]); first | done | rfl | (simp only [List.length_drop, List.length_take]; rfl)) ?_; (with_reducible refine (r4In.calls k a0_0 a0_1 _ _ l0_2 a1 t266 _ ?side1 ?side2 A3.out).mono ?_); (case side1 => repeat (first | exact (Kd.C_below HR0_2.out HB.out) | (with_reducible refine Kd.C_alloc ?_ _) | (with_reducible refine Kd.C_drewN ?_ _) | (with_reducible refine Kd.C_drew ?_))); (case side2 => exact HC0_2.out); rintro e w7 ⟨rfl, hb⟩; refine ⟨_, rfl, ?_⟩; have n0_ := Q9a.mk (kB (g := gb265) (o := .cells #[.int .i64 a0_0, .int .i64 a0_1, .slice A0_2 l0_2.length c0_2] 24 (0, 0)) (by (with_reducible repeat (first | refine kN ?_ _ | refine kD ?_ | refine kA ?_ _)); exact BK265.out) hb); have n1_ := Q9a.mk (bP (by repeat (first | (with_reducible first | exact HB.out | apply bA | apply bN | apply bD | refine bS ?_ GE265.out) | exact HB.out)) hb); clear BK265; clear HB; have BK265 := n0_; have HB := n1_; clear n0_ n1_; (try clear hb); (try clear hb2); (try clear hk); (try clear hi)))
  go_ret
  exact ⟨by first | rfl | (simp [eN, eS] <;> rfl) | (simp [*, eN, eS] <;> rfl), by repeat (first | (with_reducible first | exact HB.out | apply bA | apply bN | apply bD | refine bS ?_ GE265.out) | exact HB.out)⟩
 ·rw [if_neg c4] at H
  have c4b0 : (t266 == 0) = false := beq_eq_false_iff_ne.mpr c4
  have c4b1 : (t266 != 0) = true := bne_iff_ne.mpr c4
  replace H := Option.bind_eq_some_iff.mp H
  obtain ⟨t267, A80, H⟩ := H
  replace H : (if t267 = true then (some 0) else (some 5)) = some r := H
  have A8 := Q9a.mk A80
  clear A80
  by_cases c9 : t267 = true
  ·subst c9
   have H1 : (some 0) = some r := by rw [if_pos rfl] at H; exact H
   clear H
   have H := H1
   clear H1
   obtain rfl := Option.some.inj H
   go_enter Try.func52, Try.ntmps52
   go_wp2_with (first | ((with_reducible refine gate_dst (N := 2) rfl ?_); refine box_event ?hg (N := 2) ?hd (cs := #[.int .i64 a0_0, .int .i64 a0_1, .slice A0_2 l0_2.length c0_2]) (t := 24) ?hr ?_; (case hd => rfl); (case hg => rfl); (case hr => first | (go_simp; done) | (go_simp; rfl)); intro gb265 hg w10 hbox hb; have n0_ := Q9a.mk (bP (by repeat (first | (with_reducible first | exact HB.out | apply bA | apply bN | apply bD) | exact HB.out)) hb); have n1_ := Q9a.mk (hbox); have n2_ := Q9a.mk ((by rw [hg]; exact (bZ (by repeat (first | (with_reducible first | exact HB.out | apply bA | apply bN | apply bD) | exact HB.out))) : w.heap.size ≤ gb265)); have n3_ := Q9a.mk ((by rw [hg]; exact (bZ (by repeat (first | (with_reducible first | exact HB.out | apply bA | apply bN | apply bD) | exact HB.out))) : w.heap.size ≤ gb265)); clear HB; have HB := n0_; have BK265 := n1_; have GW265 := n2_; have GE265 := n3_; clear n0_ n1_ n2_ n3_; clear hb hbox hg; have hcz11_0 : w10.cell? ⟨gb265, 0, none⟩ = some (.int .i64 a0_0) := (kC BK265.out 0).trans rfl; have hcz11_1 : w10.cell? ⟨gb265, 1, none⟩ = some (.int .i64 a0_1) := (kC BK265.out 1).trans rfl; have hcz11_2 : w10.cell? ⟨gb265, 2, none⟩ = some (.slice A0_2 l0_2.length c0_2) := (kC BK265.out 2).trans rfl; have hfz11_0 := kF BK265.out 0; have hfz11_1 := kF BK265.out 1; have hfz11_2 := kF BK265.out 2) | ((with_reducible refine gate_callee (f := 26) rfl ?_); refine goesL_ (some 7) rfl rfl Try.func26 (by kernel_rfl) rfl #[.agg #[.int .i64 a0_0, .int .i64 a0_1, .slice A0_2 l0_2.length c0_2], .int .i64 a1] rfl (by (try simp only [List.map_toArray, List.map_cons, List.map_nil]); first | done | rfl | (simp only [List.length_drop, List.length_take]; rfl)) ?_; (with_reducible refine (r4In.calls k a0_0 a0_1 _ _ l0_2 a1 t266 _ ?side1 ?side2 A3.out).mono ?_); (case side1 => repeat (first | exact (Kd.C_below HR0_2.out HB.out) | (with_reducible refine Kd.C_alloc ?_ _) | (with_reducible refine Kd.C_drewN ?_ _) | (with_reducible refine Kd.C_drew ?_))); (case side2 => exact HC0_2.out); rintro e w12 ⟨rfl, hb⟩; refine ⟨_, rfl, ?_⟩; have n0_ := Q9a.mk (kB (g := gb265) (o := .cells #[.int .i64 a0_0, .int .i64 a0_1, .slice A0_2 l0_2.length c0_2] 24 (0, 0)) (by (with_reducible repeat (first | refine kN ?_ _ | refine kD ?_ | refine kA ?_ _)); exact BK265.out) hb); have n1_ := Q9a.mk (bP (by repeat (first | (with_reducible first | exact HB.out | apply bA | apply bN | apply bD | refine bS ?_ GE265.out) | exact HB.out)) hb); clear BK265; clear HB; have BK265 := n0_; have HB := n1_; clear n0_ n1_; (try clear hb); (try clear hb2); (try clear hk); (try clear hi); have hcz13_0 : w12.cell? ⟨gb265, 0, none⟩ = some (.int .i64 a0_0) := (kC BK265.out 0).trans rfl; have hcz13_1 : w12.cell? ⟨gb265, 1, none⟩ = some (.int .i64 a0_1) := (kC BK265.out 1).trans rfl; have hcz13_2 : w12.cell? ⟨gb265, 2, none⟩ = some (.slice A0_2 l0_2.length c0_2) := (kC BK265.out 2).trans rfl; have hfz13_0 := kF BK265.out 0; have hfz13_1 := kF BK265.out 1; have hfz13_2 := kF BK265.out 2) | ((with_reducible refine gate_callee (f := 20) rfl ?_); refine goesL_ (some 11) rfl rfl Try.func20 (by kernel_rfl) rfl #[.agg #[.int .i64 a0_0, .int .i64 a0_1, .slice A0_2 l0_2.length c0_2], .int .i64 a1] rfl (by (try simp only [List.map_toArray, List.map_cons, List.map_nil]); first | done | rfl | (simp only [List.length_drop, List.length_take]; rfl)) ?_; (with_reducible refine (r8IsPrimitive.calls k a0_0 a0_1 _ _ l0_2 a1 true _ ?side1 ?side2 A8.out).mono ?_); (case side1 => repeat (first | exact (Kd.C_below HR0_2.out HB.out) | (with_reducible refine Kd.C_alloc ?_ _) | (with_reducible refine Kd.C_drewN ?_ _) | (with_reducible refine Kd.C_drew ?_))); (case side2 => exact HC0_2.out); rintro e w14 ⟨rfl, hb⟩; refine ⟨_, rfl, ?_⟩; have n0_ := Q9a.mk (kB (g := gb265) (o := .cells #[.int .i64 a0_0, .int .i64 a0_1, .slice A0_2 l0_2.length c0_2] 24 (0, 0)) (by (with_reducible repeat (first | refine kN ?_ _ | refine kD ?_ | refine kA ?_ _)); exact BK265.out) hb); have n1_ := Q9a.mk (bP (by repeat (first | (with_reducible first | exact HB.out | apply bA | apply bN | apply bD | refine bS ?_ GE265.out) | exact HB.out)) hb); clear BK265; clear HB; have BK265 := n0_; have HB := n1_; clear n0_ n1_; (try clear hb); (try clear hb2); (try clear hk); (try clear hi)))
   go_ret
   exact ⟨by first | rfl | (simp [eN, eS] <;> rfl) | (simp [*, eN, eS] <;> rfl), by repeat (first | (with_reducible first | exact HB.out | apply bA | apply bN | apply bD | refine bS ?_ GE265.out) | exact HB.out)⟩
  ·replace c9 := Bool.eq_false_iff.mpr c9
   subst c9
   have H1 : (some 5) = some r := by rw [if_neg (show ¬ (false = true) by decide)] at H; exact H
   clear H
   have H := H1
   clear H1
   obtain rfl := Option.some.inj H
   go_enter Try.func52, Try.ntmps52
   go_wp2_with (first | ((with_reducible refine gate_dst (N := 2) rfl ?_); refine box_event ?hg (N := 2) ?hd (cs := #[.int .i64 a0_0, .int .i64 a0_1, .slice A0_2 l0_2.length c0_2]) (t := 24) ?hr ?_; (case hd => rfl); (case hg => rfl); (case hr => first | (go_simp; done) | (go_simp; rfl)); intro gb265 hg w15 hbox hb; have n0_ := Q9a.mk (bP (by repeat (first | (with_reducible first | exact HB.out | apply bA | apply bN | apply bD) | exact HB.out)) hb); have n1_ := Q9a.mk (hbox); have n2_ := Q9a.mk ((by rw [hg]; exact (bZ (by repeat (first | (with_reducible first | exact HB.out | apply bA | apply bN | apply bD) | exact HB.out))) : w.heap.size ≤ gb265)); have n3_ := Q9a.mk ((by rw [hg]; exact (bZ (by repeat (first | (with_reducible first | exact HB.out | apply bA | apply bN | apply bD) | exact HB.out))) : w.heap.size ≤ gb265)); clear HB; have HB := n0_; have BK265 := n1_; have GW265 := n2_; have GE265 := n3_; clear n0_ n1_ n2_ n3_; clear hb hbox hg; have hcz16_0 : w15.cell? ⟨gb265, 0, none⟩ = some (.int .i64 a0_0) := (kC BK265.out 0).trans rfl; have hcz16_1 : w15.cell? ⟨gb265, 1, none⟩ = some (.int .i64 a0_1) := (kC BK265.out 1).trans rfl; have hcz16_2 : w15.cell? ⟨gb265, 2, none⟩ = some (.slice A0_2 l0_2.length c0_2) := (kC BK265.out 2).trans rfl; have hfz16_0 := kF BK265.out 0; have hfz16_1 := kF BK265.out 1; have hfz16_2 := kF BK265.out 2) | ((with_reducible refine gate_callee (f := 26) rfl ?_); refine goesL_ (some 7) rfl rfl Try.func26 (by kernel_rfl) rfl #[.agg #[.int .i64 a0_0, .int .i64 a0_1, .slice A0_2 l0_2.length c0_2], .int .i64 a1] rfl (by (try simp only [List.map_toArray, List.map_cons, List.map_nil]); first | done | rfl | (simp only [List.length_drop, List.length_take]; rfl)) ?_; (with_reducible refine (r4In.calls k a0_0 a0_1 _ _ l0_2 a1 t266 _ ?side1 ?side2 A3.out).mono ?_); (case side1 => repeat (first | exact (Kd.C_below HR0_2.out HB.out) | (with_reducible refine Kd.C_alloc ?_ _) | (with_reducible refine Kd.C_drewN ?_ _) | (with_reducible refine Kd.C_drew ?_))); (case side2 => exact HC0_2.out); rintro e w17 ⟨rfl, hb⟩; refine ⟨_, rfl, ?_⟩; have n0_ := Q9a.mk (kB (g := gb265) (o := .cells #[.int .i64 a0_0, .int .i64 a0_1, .slice A0_2 l0_2.length c0_2] 24 (0, 0)) (by (with_reducible repeat (first | refine kN ?_ _ | refine kD ?_ | refine kA ?_ _)); exact BK265.out) hb); have n1_ := Q9a.mk (bP (by repeat (first | (with_reducible first | exact HB.out | apply bA | apply bN | apply bD | refine bS ?_ GE265.out) | exact HB.out)) hb); clear BK265; clear HB; have BK265 := n0_; have HB := n1_; clear n0_ n1_; (try clear hb); (try clear hb2); (try clear hk); (try clear hi); have hcz18_0 : w17.cell? ⟨gb265, 0, none⟩ = some (.int .i64 a0_0) := (kC BK265.out 0).trans rfl; have hcz18_1 : w17.cell? ⟨gb265, 1, none⟩ = some (.int .i64 a0_1) := (kC BK265.out 1).trans rfl; have hcz18_2 : w17.cell? ⟨gb265, 2, none⟩ = some (.slice A0_2 l0_2.length c0_2) := (kC BK265.out 2).trans rfl; have hfz18_0 := kF BK265.out 0; have hfz18_1 := kF BK265.out 1; have hfz18_2 := kF BK265.out 2) | ((with_reducible refine gate_callee (f := 20) rfl ?_); refine goesL_ (some 11) rfl rfl Try.func20 (by kernel_rfl) rfl #[.agg #[.int .i64 a0_0, .int .i64 a0_1, .slice A0_2 l0_2.length c0_2], .int .i64 a1] rfl (by (try simp only [List.map_toArray, List.map_cons, List.map_nil]); first | done | rfl | (simp only [List.length_drop, List.length_take]; rfl)) ?_; (with_reducible refine (r8IsPrimitive.calls k a0_0 a0_1 _ _ l0_2 a1 false _ ?side1 ?side2 A8.out).mono ?_); (case side1 => repeat (first | exact (Kd.C_below HR0_2.out HB.out) | (with_reducible refine Kd.C_alloc ?_ _) | (with_reducible refine Kd.C_drewN ?_ _) | (with_reducible refine Kd.C_drew ?_))); (case side2 => exact HC0_2.out); rintro e w19 ⟨rfl, hb⟩; refine ⟨_, rfl, ?_⟩; have n0_ := Q9a.mk (kB (g := gb265) (o := .cells #[.int .i64 a0_0, .int .i64 a0_1, .slice A0_2 l0_2.length c0_2] 24 (0, 0)) (by (with_reducible repeat (first | refine kN ?_ _ | refine kD ?_ | refine kA ?_ _)); exact BK265.out) hb); have n1_ := Q9a.mk (bP (by repeat (first | (with_reducible first | exact HB.out | apply bA | apply bN | apply bD | refine bS ?_ GE265.out) | exact HB.out)) hb); clear BK265; clear HB; have BK265 := n0_; have HB := n1_; clear n0_ n1_; (try clear hb); (try clear hb2); (try clear hk); (try clear hi)))
   go_ret
   exact ⟨by first | rfl | (simp [eN, eS] <;> rfl) | (simp [*, eN, eS] <;> rfl), by repeat (first | (with_reducible first | exact HB.out | apply bA | apply bN | apply bD | refine bS ?_ GE265.out) | exact HB.out)⟩
mutual
def r4Pow.j0 : Nat → Int → Int → Bool → Int → Int → List Int → Option (Int × Int)
 | 0, _, _, _, _, _, _ => none
 | k + 1, x1, x2, x21, x270000, x270001, x270002 => if x21 = true then (some (0, 7)) else (if x1 = 0 then (some (0, 0)) else ((r4Order.f k x270000 x270001 x270002).bind fun t271 => (if (wrap64 (t271 - 1)) = 0 then (none) else (r4Pow.l0 k x1 (Int.tmod (wrap64 ((Int.tmod x2 (wrap64 (t271 - 1))) + (wrap64 (t271 - 1)))) (wrap64 (t271 - 1))) 1 0 x270000 x270001 x270002))))
def r4Pow.l0 : Nat → Int → Int → Int → Int → Int → Int → List Int → Option (Int × Int)
 | 0, _, _, _, _, _, _, _ => none
 | k + 1, x1, x2, x9, x10, x270000, x270001, x270002 => if x10 < x2 then ((r4Mul.f k x270000 x270001 x270002 x9 x1).bind fun t272 => (r4Pow.l0 k x1 x2 t272 (wrap64 (x10 + 1)) x270000 x270001 x270002)) else (some (x9, 0))
end
def r4Pow.f (k : Nat) (a0_0 : Int) (a0_1 : Int) (l0_2 : List Int) (a1 : Int) (a2 : Int) : Option (Int × Int) := (r4In.f k a0_0 a0_1 l0_2 a1).bind fun t270 => (if a2 = 0 then (some (1, 0)) else (if t270 = 0 then (r4Pow.j0 k t270 a2 (decide (a2 < 0)) a0_0 a0_1 l0_2) else (r4Pow.j0 k t270 a2 false a0_0 a0_1 l0_2)))
set_option maxHeartbeats 8000000 in
set_option maxRecDepth 100000 in
theorem r4Pow.calls (k : Nat) (a0_0 : Int) (a0_1 : Int) (A0_2 : Option Addr) (c0_2 : Nat) (l0_2 : List Int) (a1 : Int) (a2 : Int) (r1 : Int) (r2 : Int) (w : World) (hr0_2 : Kd.C (Kd.int .i64) w A0_2 l0_2.length l0_2) (hc0_2 : l0_2.length ≤ c0_2) (h : r4Pow.f k a0_0 a0_1 l0_2 a1 a2 = some (r1, r2)) :
  Calls Try.prog 30 #[.agg #[.int .i64 a0_0, .int .i64 a0_1, .slice A0_2 l0_2.length c0_2], .int .i64 a1, .int .i64 a2] w fun e w' => e = .returned (.tuple #[.int .i64 r1, .int .i64 r2]) ∧ Below w.heap.size w w' := by
 have hu24 := Try.underlying24
 have HR0_2 := Q9a.mk hr0_2
 have HC0_2 := Q9a.mk hc0_2
 clear hr0_2 hc0_2
 have HB := Q9a.mk (Below.refl w.heap.size w)
 have H : ((r4In.f k a0_0 a0_1 l0_2 a1).bind fun t270 => (if a2 = 0 then (some (1, 0)) else (if t270 = 0 then (r4Pow.j0 k t270 a2 (decide (a2 < 0)) a0_0 a0_1 l0_2) else (r4Pow.j0 k t270 a2 false a0_0 a0_1 l0_2)))) = some (r1, r2) := h
 clear h
 replace H := Option.bind_eq_some_iff.mp H
 obtain ⟨t270, A40, H⟩ := H
 replace H : (if a2 = 0 then (some (1, 0)) else (if t270 = 0 then (r4Pow.j0 k t270 a2 (decide (a2 < 0)) a0_0 a0_1 l0_2) else (r4Pow.j0 k t270 a2 false a0_0 a0_1 l0_2))) = some (r1, r2) := H
 have A4 := Q9a.mk A40
 clear A40
 by_cases c5 : a2 = 0
 ·rw [if_pos c5] at H
  have c5b0 : (a2 == 0) = true := beq_iff_eq.mpr c5
  have c5b1 : (a2 != 0) = false := bne_eq_false_iff_eq.mpr c5
  clear c5
  simp only [Option.some.injEq, Prod.mk.injEq] at H
  obtain ⟨rfl, rfl⟩ := H
  go_enter Try.func30, Try.ntmps30
  go_wp2_with (first | ((with_reducible refine gate_dst (N := 3) rfl ?_); refine box_event ?hg (N := 3) ?hd (cs := #[.int .i64 a0_0, .int .i64 a0_1, .slice A0_2 l0_2.length c0_2]) (t := 24) ?hr ?_; (case hd => rfl); (case hg => rfl); (case hr => first | (go_simp; done) | (go_simp; rfl)); intro gb269 hg w6 hbox hb; have n0_ := Q9a.mk (bP (by repeat (first | (with_reducible first | exact HB.out | apply bA | apply bN | apply bD) | exact HB.out)) hb); have n1_ := Q9a.mk (hbox); have n2_ := Q9a.mk ((by rw [hg]; exact (bZ (by repeat (first | (with_reducible first | exact HB.out | apply bA | apply bN | apply bD) | exact HB.out))) : w.heap.size ≤ gb269)); have n3_ := Q9a.mk ((by rw [hg]; exact (bZ (by repeat (first | (with_reducible first | exact HB.out | apply bA | apply bN | apply bD) | exact HB.out))) : w.heap.size ≤ gb269)); clear HB; have HB := n0_; have BK269 := n1_; have GW269 := n2_; have GE269 := n3_; clear n0_ n1_ n2_ n3_; clear hb hbox hg; have hcz7_0 : w6.cell? ⟨gb269, 0, none⟩ = some (.int .i64 a0_0) := (kC BK269.out 0).trans rfl; have hcz7_1 : w6.cell? ⟨gb269, 1, none⟩ = some (.int .i64 a0_1) := (kC BK269.out 1).trans rfl; have hcz7_2 : w6.cell? ⟨gb269, 2, none⟩ = some (.slice A0_2 l0_2.length c0_2) := (kC BK269.out 2).trans rfl; have hfz7_0 := kF BK269.out 0; have hfz7_1 := kF BK269.out 1; have hfz7_2 := kF BK269.out 2) | ((with_reducible refine gate_callee (f := 26) rfl ?_); refine goesL_ (some 13) rfl rfl Try.func26 (by kernel_rfl) rfl #[.agg #[.int .i64 a0_0, .int .i64 a0_1, .slice A0_2 l0_2.length c0_2], .int .i64 a1] rfl (by (try simp only [List.map_toArray, List.map_cons, List.map_nil]); first | done | rfl | (simp only [List.length_drop, List.length_take]; rfl)) ?_; (with_reducible refine (r4In.calls k a0_0 a0_1 _ _ l0_2 a1 t270 _ ?side1 ?side2 A4.out).mono ?_); (case side1 => repeat (first | exact (Kd.C_below HR0_2.out HB.out) | (with_reducible refine Kd.C_alloc ?_ _) | (with_reducible refine Kd.C_drewN ?_ _) | (with_reducible refine Kd.C_drew ?_))); (case side2 => exact HC0_2.out); rintro e w8 ⟨rfl, hb⟩; refine ⟨_, rfl, ?_⟩; have n0_ := Q9a.mk (kB (g := gb269) (o := .cells #[.int .i64 a0_0, .int .i64 a0_1, .slice A0_2 l0_2.length c0_2] 24 (0, 0)) (by (with_reducible repeat (first | refine kN ?_ _ | refine kD ?_ | refine kA ?_ _)); exact BK269.out) hb); have n1_ := Q9a.mk (bP (by repeat (first | (with_reducible first | exact HB.out | apply bA | apply bN | apply bD | refine bS ?_ GE269.out) | exact HB.out)) hb); clear BK269; clear HB; have BK269 := n0_; have HB := n1_; clear n0_ n1_; (try clear hb); (try clear hb2); (try clear hk); (try clear hi)))
  go_ret2
  exact ⟨by first | rfl | (simp [eN, eS] <;> rfl) | (simp [*, eN, eS] <;> rfl), by repeat (first | (with_reducible first | exact HB.out | apply bA | apply bN | apply bD | refine bS ?_ GE269.out) | exact HB.out)⟩
 ·rw [if_neg c5] at H
  have c5b0 : (a2 == 0) = false := beq_eq_false_iff_ne.mpr c5
  have c5b1 : (a2 != 0) = true := bne_iff_ne.mpr c5
  have HC9 := Q9a.mk H
  clear H
  go_enter Try.func30, Try.ntmps30
  go_upto_region 4 with (first | ((with_reducible refine gate_dst (N := 3) rfl ?_); refine box_event ?hg (N := 3) ?hd (cs := #[.int .i64 a0_0, .int .i64 a0_1, .slice A0_2 l0_2.length c0_2]) (t := 24) ?hr ?_; (case hd => rfl); (case hg => rfl); (case hr => first | (go_simp; done) | (go_simp; rfl)); intro gb269 hg w10 hbox hb; have n0_ := Q9a.mk (bP (by repeat (first | (with_reducible first | exact HB.out | apply bA | apply bN | apply bD) | exact HB.out)) hb); have n1_ := Q9a.mk (hbox); have n2_ := Q9a.mk ((by rw [hg]; exact (bZ (by repeat (first | (with_reducible first | exact HB.out | apply bA | apply bN | apply bD) | exact HB.out))) : w.heap.size ≤ gb269)); have n3_ := Q9a.mk ((by rw [hg]; exact (bZ (by repeat (first | (with_reducible first | exact HB.out | apply bA | apply bN | apply bD) | exact HB.out))) : w.heap.size ≤ gb269)); clear HB; have HB := n0_; have BK269 := n1_; have GW269 := n2_; have GE269 := n3_; clear n0_ n1_ n2_ n3_; clear hb hbox hg; have hcz11_0 : w10.cell? ⟨gb269, 0, none⟩ = some (.int .i64 a0_0) := (kC BK269.out 0).trans rfl; have hcz11_1 : w10.cell? ⟨gb269, 1, none⟩ = some (.int .i64 a0_1) := (kC BK269.out 1).trans rfl; have hcz11_2 : w10.cell? ⟨gb269, 2, none⟩ = some (.slice A0_2 l0_2.length c0_2) := (kC BK269.out 2).trans rfl; have hfz11_0 := kF BK269.out 0; have hfz11_1 := kF BK269.out 1; have hfz11_2 := kF BK269.out 2) | ((with_reducible refine gate_callee (f := 26) rfl ?_); refine goesL_ (some 13) rfl rfl Try.func26 (by kernel_rfl) rfl #[.agg #[.int .i64 a0_0, .int .i64 a0_1, .slice A0_2 l0_2.length c0_2], .int .i64 a1] rfl (by (try simp only [List.map_toArray, List.map_cons, List.map_nil]); first | done | rfl | (simp only [List.length_drop, List.length_take]; rfl)) ?_; (with_reducible refine (r4In.calls k a0_0 a0_1 _ _ l0_2 a1 t270 _ ?side1 ?side2 A4.out).mono ?_); (case side1 => repeat (first | exact (Kd.C_below HR0_2.out HB.out) | (with_reducible refine Kd.C_alloc ?_ _) | (with_reducible refine Kd.C_drewN ?_ _) | (with_reducible refine Kd.C_drew ?_))); (case side2 => exact HC0_2.out); rintro e w12 ⟨rfl, hb⟩; refine ⟨_, rfl, ?_⟩; have n0_ := Q9a.mk (kB (g := gb269) (o := .cells #[.int .i64 a0_0, .int .i64 a0_1, .slice A0_2 l0_2.length c0_2] 24 (0, 0)) (by (with_reducible repeat (first | refine kN ?_ _ | refine kD ?_ | refine kA ?_ _)); exact BK269.out) hb); have n1_ := Q9a.mk (bP (by repeat (first | (with_reducible first | exact HB.out | apply bA | apply bN | apply bD | refine bS ?_ GE269.out) | exact HB.out)) hb); clear BK269; clear HB; have BK269 := n0_; have HB := n1_; clear n0_ n1_; (try clear hb); (try clear hb2); (try clear hk); (try clear hi)))
  (try simp only [Act.put, sz1, sz2, sz3])
  go_cut [21] (fun v21 wc => ∃ (kq : Nat) (x21_8 : Bool), v21 = .bool x21_8 ∧ Q9a (r4Pow.j0 kq t270 a2 x21_8 a0_0 a0_1 l0_2 = some (r1, r2)) ∧ Q9a (kq ≤ k) ∧ Q9a (wc.heap[gb269]? = some (.cells #[.int .i64 a0_0, .int .i64 a0_1, (.slice A0_2 l0_2.length c0_2)] 24 (0, 0))) ∧ Q9a (Below w.heap.size w wc))
  case first =>
   have H := HC9.out
   clear HC9
   by_cases c13 : t270 = 0
   ·rw [if_pos c13] at H
    have c13b0 : (t270 == 0) = true := beq_iff_eq.mpr c13
    have c13b1 : (t270 != 0) = false := bne_eq_false_iff_eq.mpr c13
    clear c13
    (first | rw [c13b0] | (simp only [i64_w, i32_w]; rw [c13b0]) | skip)
    have H' := Q9a.mk H
    clear H
    go_wp2
    go_meet
    case rel => exact ⟨_, (decide (a2 < 0)), (by first | rfl | (simp; done) | (simp [*]; done)), H', ⟨by first | omega | exact Nat.le_refl _⟩, ⟨by (with_reducible repeat (first | refine kN ?_ _ | refine kD ?_ | refine kA ?_ _)); exact BK269.out⟩, ⟨by repeat (first | (with_reducible first | exact HB.out | apply bA | apply bN | apply bD | refine bS ?_ GE269.out) | exact HB.out)⟩⟩
   ·rw [if_neg c13] at H
    have c13b0 : (t270 == 0) = false := beq_eq_false_iff_ne.mpr c13
    have c13b1 : (t270 != 0) = true := bne_iff_ne.mpr c13
    (first | rw [c13b0] | (simp only [i64_w, i32_w]; rw [c13b0]) | skip)
    have H' := Q9a.mk H
    clear H
    go_wp2
    go_meet
    case rel => exact ⟨_, (false), (by first | rfl | (simp; done) | (simp [*]; done)), H', ⟨by first | omega | exact Nat.le_refl _⟩, ⟨by (with_reducible repeat (first | refine kN ?_ _ | refine kD ?_ | refine kA ?_ _)); exact BK269.out⟩, ⟨by repeat (first | (with_reducible first | exact HB.out | apply bA | apply bN | apply bD | refine bS ?_ GE269.out) | exact HB.out)⟩⟩
  case rest =>
   clear HC9
   try clear c1
   try clear c2
   try clear p2
   try clear c3
   try clear c5
   try clear c5b0
   try clear c5b1
   try clear c13
   try clear c13b0
   try clear c13b1
   try clear hcz11_0
   try clear hcz11_1
   try clear hcz11_2
   try clear hcz7_0
   try clear hcz7_1
   try clear hcz7_2
   try clear hfz11_0
   try clear hfz11_1
   try clear hfz11_2
   try clear hfz7_0
   try clear hfz7_1
   try clear hfz7_2
   obtain ⟨kq, x21_8, rfl, HA, HJ8, BK269, HB⟩ := hcut
   cases kq with
   | zero => exact absurd HA.out (by simp [r4Pow.j0])
   | succ kj8 =>
    have H := HA.out
    clear HA
    simp only [r4Pow.j0] at H
    by_cases c14 : x21_8 = true
    ·subst c14
     have H1 : (some (0, 7)) = some (r1, r2) := by rw [if_pos rfl] at H; exact H
     clear H
     have H := H1
     clear H1
     simp only [Option.some.injEq, Prod.mk.injEq] at H
     obtain ⟨rfl, rfl⟩ := H
     go_wp2
     go_ret2
     exact ⟨by first | rfl | (simp [eN, eS] <;> rfl) | (simp [*, eN, eS] <;> rfl), by repeat (first | (with_reducible first | exact HB.out | apply bA | apply bN | apply bD | refine bS ?_ GE269.out) | exact HB.out)⟩
    ·replace c14 := Bool.eq_false_iff.mpr c14
     subst c14
     have H1 : (if t270 = 0 then (some (0, 0)) else ((r4Order.f kj8 a0_0 a0_1 l0_2).bind fun t271 => (if (wrap64 (t271 - 1)) = 0 then (none) else (r4Pow.l0 kj8 t270 (Int.tmod (wrap64 ((Int.tmod a2 (wrap64 (t271 - 1))) + (wrap64 (t271 - 1)))) (wrap64 (t271 - 1))) 1 0 a0_0 a0_1 l0_2)))) = some (r1, r2) := by rw [if_neg (show ¬ (false = true) by decide)] at H; exact H
     clear H
     have H := H1
     clear H1
     by_cases c15 : t270 = 0
     ·rw [if_pos c15] at H
      have c15b0 : (t270 == 0) = true := beq_iff_eq.mpr c15
      have c15b1 : (t270 != 0) = false := bne_eq_false_iff_eq.mpr c15
      clear c15
      simp only [Option.some.injEq, Prod.mk.injEq] at H
      obtain ⟨rfl, rfl⟩ := H
      go_wp2
      go_ret2
      exact ⟨by first | rfl | (simp [eN, eS] <;> rfl) | (simp [*, eN, eS] <;> rfl), by repeat (first | (with_reducible first | exact HB.out | apply bA | apply bN | apply bD | refine bS ?_ GE269.out) | exact HB.out)⟩
     ·rw [if_neg c15] at H
      have c15b0 : (t270 == 0) = false := beq_eq_false_iff_ne.mpr c15
      have c15b1 : (t270 != 0) = true := bne_iff_ne.mpr c15
      replace H := Option.bind_eq_some_iff.mp H
      obtain ⟨t271, A160, H⟩ := H
      replace H : (if (wrap64 (t271 - 1)) = 0 then (none) else (r4Pow.l0 kj8 t270 (Int.tmod (wrap64 ((Int.tmod a2 (wrap64 (t271 - 1))) + (wrap64 (t271 - 1)))) (wrap64 (t271 - 1))) 1 0 a0_0 a0_1 l0_2)) = some (r1, r2) := H
      have A16 := Q9a.mk A160
      clear A160
      by_cases c17 : (wrap64 (t271 - 1)) = 0
      ·rw [if_pos c17] at H
       exact absurd H (by simp)
      ·rw [if_neg c17] at H
       have c17b0 : ((wrap64 (t271 - 1)) == 0) = false := beq_eq_false_iff_ne.mpr c17
       have c17b1 : ((wrap64 (t271 - 1)) != 0) = true := bne_iff_ne.mpr c17
       have H' := Q9a.mk H
       clear H
       have hcz18_0 : wc.cell? ⟨gb269, 0, none⟩ = some (.int .i64 a0_0) := (kC BK269.out 0).trans rfl
       have hcz18_1 : wc.cell? ⟨gb269, 1, none⟩ = some (.int .i64 a0_1) := (kC BK269.out 1).trans rfl
       have hcz18_2 : wc.cell? ⟨gb269, 2, none⟩ = some (.slice A0_2 l0_2.length c0_2) := (kC BK269.out 2).trans rfl
       have hfz18_0 := kF BK269.out 0
       have hfz18_1 := kF BK269.out 1
       have hfz18_2 := kF BK269.out 2
       go_wp2_with (first | ((with_reducible refine gate_callee (f := 33) rfl ?_); refine goesL_ (some 25) rfl rfl Try.func33 (by kernel_rfl) rfl #[.agg #[.int .i64 a0_0, .int .i64 a0_1, .slice A0_2 l0_2.length c0_2]] rfl (by (try simp only [List.map_toArray, List.map_cons, List.map_nil]); first | done | rfl | (simp only [List.length_drop, List.length_take]; rfl)) ?_; (with_reducible refine (r4Order.calls kj8 a0_0 a0_1 _ _ l0_2 t271 _ ?side1 ?side2 A16.out).mono ?_); (case side1 => repeat (first | exact (Kd.C_below HR0_2.out HB.out) | (with_reducible refine Kd.C_alloc ?_ _) | (with_reducible refine Kd.C_drewN ?_ _) | (with_reducible refine Kd.C_drew ?_))); (case side2 => exact HC0_2.out); rintro e w19 ⟨rfl, hb⟩; refine ⟨_, rfl, ?_⟩; have n0_ := Q9a.mk (kB (g := gb269) (o := .cells #[.int .i64 a0_0, .int .i64 a0_1, .slice A0_2 l0_2.length c0_2] 24 (0, 0)) (by (with_reducible repeat (first | refine kN ?_ _ | refine kD ?_ | refine kA ?_ _)); exact BK269.out) hb); have n1_ := Q9a.mk (bP (by repeat (first | (with_reducible first | exact HB.out | apply bA | apply bN | apply bD | refine bS ?_ GE269.out) | exact HB.out)) hb); clear BK269; clear HB; have BK269 := n0_; have HB := n1_; clear n0_ n1_; (try clear hb); (try clear hb2); (try clear hk); (try clear hi)))
       go_loopg [9, 10] kj8 (fun kq v9 v10 w' => ∃ (x9_2 : Int) (x10_2 : Int), v9 = .int .i64 x9_2 ∧ v10 = .int .i64 x10_2 ∧ Q9a (r4Pow.l0 kq t270 (Int.tmod (wrap64 ((Int.tmod a2 (wrap64 (t271 - 1))) + (wrap64 (t271 - 1)))) (wrap64 (t271 - 1))) x9_2 x10_2 a0_0 a0_1 l0_2 = some (r1, r2)) ∧ Q9a (kq ≤ kj8) ∧ Q9a (w'.heap[gb269]? = some (.cells #[.int .i64 a0_0, .int .i64 a0_1, (.slice A0_2 l0_2.length c0_2)] 24 (0, 0))) ∧ Q9a (Below w.heap.size w w'))
       case atStart => exact ⟨(1), (0), (by first | rfl | (simp; done) | (simp [*]; done)), (by first | rfl | (simp; done) | (simp [*]; done)), H', ⟨Nat.le_refl _⟩, ⟨by (with_reducible repeat (first | refine kN ?_ _ | refine kD ?_ | refine kA ?_ _)); exact BK269.out⟩, ⟨by repeat (first | (with_reducible first | exact HB.out | apply bA | apply bN | apply bD | refine bS ?_ GE269.out) | exact HB.out)⟩⟩
       case round =>
        clear H'
        try clear c1
        try clear c2
        try clear p2
        try clear c3
        try clear c5
        try clear c5b0
        try clear c5b1
        try clear p6
        try clear c13
        try clear c13b0
        try clear c13b1
        try clear c14
        try clear c15
        try clear c15b0
        try clear c15b1
        try clear c17
        try clear c17b0
        try clear c17b1
        try clear hcz11_0
        try clear hcz11_1
        try clear hcz11_2
        try clear hcz18_0
        try clear hcz18_1
        try clear hcz18_2
        try clear hcz7_0
        try clear hcz7_1
        try clear hcz7_2
        try clear hfz11_0
        try clear hfz11_1
        try clear hfz11_2
        try clear hfz18_0
        try clear hfz18_1
        try clear hfz18_2
        try clear hfz7_0
        try clear hfz7_1
        try clear hfz7_2
        try clear p2
        obtain ⟨x9_2, x10_2, rfl, rfl, HA, HK2, BK269, HB⟩ := hrel
        cases gk with
        | zero => exact absurd HA.out (by simp [r4Pow.l0])
        | succ k2 =>
         have H := HA.out
         clear HA
         simp only [r4Pow.l0] at H
         by_cases c20 : x10_2 < (Int.tmod (wrap64 ((Int.tmod a2 (wrap64 (t271 - 1))) + (wrap64 (t271 - 1)))) (wrap64 (t271 - 1)))
         ·rw [if_pos c20] at H
          have c20b0 : decide (x10_2 < (Int.tmod (wrap64 ((Int.tmod a2 (wrap64 (t271 - 1))) + (wrap64 (t271 - 1)))) (wrap64 (t271 - 1)))) = true := decide_eq_true c20
          clear c20
          replace H := Option.bind_eq_some_iff.mp H
          obtain ⟨t272, A210, H⟩ := H
          replace H : (r4Pow.l0 k2 t270 (Int.tmod (wrap64 ((Int.tmod a2 (wrap64 (t271 - 1))) + (wrap64 (t271 - 1)))) (wrap64 (t271 - 1))) t272 (wrap64 (x10_2 + 1)) a0_0 a0_1 l0_2) = some (r1, r2) := H
          have A21 := Q9a.mk A210
          clear A210
          have H' := Q9a.mk H
          clear H
          have hcz22_0 : wr.cell? ⟨gb269, 0, none⟩ = some (.int .i64 a0_0) := (kC BK269.out 0).trans rfl
          have hcz22_1 : wr.cell? ⟨gb269, 1, none⟩ = some (.int .i64 a0_1) := (kC BK269.out 1).trans rfl
          have hcz22_2 : wr.cell? ⟨gb269, 2, none⟩ = some (.slice A0_2 l0_2.length c0_2) := (kC BK269.out 2).trans rfl
          have hfz22_0 := kF BK269.out 0
          have hfz22_1 := kF BK269.out 1
          have hfz22_2 := kF BK269.out 2
          go_wp2_with (first | ((with_reducible refine gate_callee (f := 32) rfl ?_); refine goesL_ (some 42) rfl rfl Try.func32 (by kernel_rfl) rfl #[.agg #[.int .i64 a0_0, .int .i64 a0_1, .slice A0_2 l0_2.length c0_2], .int .i64 x9_2, .int .i64 t270] rfl (by (try simp only [List.map_toArray, List.map_cons, List.map_nil]); first | done | rfl | (simp only [List.length_drop, List.length_take]; rfl)) ?_; (with_reducible refine (r4Mul.calls k2 a0_0 a0_1 _ _ l0_2 x9_2 t270 t272 _ ?side1 ?side2 A21.out).mono ?_); (case side1 => repeat (first | exact (Kd.C_below HR0_2.out HB.out) | (with_reducible refine Kd.C_alloc ?_ _) | (with_reducible refine Kd.C_drewN ?_ _) | (with_reducible refine Kd.C_drew ?_))); (case side2 => exact HC0_2.out); rintro e w23 ⟨rfl, hb⟩; refine ⟨_, rfl, ?_⟩; have n0_ := Q9a.mk (kB (g := gb269) (o := .cells #[.int .i64 a0_0, .int .i64 a0_1, .slice A0_2 l0_2.length c0_2] 24 (0, 0)) (by (with_reducible repeat (first | refine kN ?_ _ | refine kD ?_ | refine kA ?_ _)); exact BK269.out) hb); have n1_ := Q9a.mk (bP (by repeat (first | (with_reducible first | exact HB.out | apply bA | apply bN | apply bD | refine bS ?_ GE269.out) | exact HB.out)) hb); clear BK269; clear HB; have BK269 := n0_; have HB := n1_; clear n0_ n1_; (try clear hb); (try clear hb2); (try clear hk); (try clear hi)))
          go_roundg k2
          case measure => have := HJ8.out; have := HK2.out; omega
          case rel => exact ⟨(t272), (wrap64 (x10_2 + 1)), (by first | rfl | (simp; done) | (simp [*]; done)), (by first | rfl | (simp; done) | (simp [*]; done)), H', ⟨by have := HJ8.out; have := HK2.out; omega⟩, ⟨by (with_reducible repeat (first | refine kN ?_ _ | refine kD ?_ | refine kA ?_ _)); exact BK269.out⟩, ⟨by repeat (first | (with_reducible first | exact HB.out | apply bA | apply bN | apply bD | refine bS ?_ GE269.out) | exact HB.out)⟩⟩
         ·rw [if_neg c20] at H
          have c20b0 : decide (x10_2 < (Int.tmod (wrap64 ((Int.tmod a2 (wrap64 (t271 - 1))) + (wrap64 (t271 - 1)))) (wrap64 (t271 - 1)))) = false := decide_eq_false c20
          clear c20
          simp only [Option.some.injEq, Prod.mk.injEq] at H
          obtain ⟨rfl, rfl⟩ := H
          go_wp2
          go_ret2
          exact ⟨by first | rfl | (simp [eN, eS] <;> rfl) | (simp [*, eN, eS] <;> rfl), by repeat (first | (with_reducible first | exact HB.out | apply bA | apply bN | apply bD | refine bS ?_ GE269.out) | exact HB.out)⟩
def r4Add.l0 : Nat → List Int → List Int → Int → Int → Int → List Int → Option (Int)
 | 0, _, _, _, _, _, _ => none
 | k + 1, x7, x8, x9, x277000, x277001, x277002 => if x9 < (x7.length : Int) then (if 0 ≤ x9 then (if x9 < (x8.length : Int) then (if x277000 = 0 then (none) else (r4Add.l0 k (x7.set (x9 : Int).toNat (Int.tmod (wrap64 ((rd x7 x9) + (rd x8 x9))) x277000)) x8 (wrap64 (x9 + 1)) x277000 x277001 x277002)) else (none)) else (none)) else ((r4Value.f k x277000 x277001 x277002 x7).bind fun t286 => (some t286))
def r4Add.f (k : Nat) (a0_0 : Int) (a0_1 : Int) (l0_2 : List Int) (a1 : Int) (a2 : Int) : Option (Int) := (r4Digits.f k a0_0 a0_1 l0_2 a1).bind fun t277 => ((r4Digits.f k a0_0 a0_1 l0_2 a2).bind fun t280 => (r4Add.l0 k t277 t280 0 a0_0 a0_1 l0_2))
def r4Add.T6 : Bool × List (List Nat × List Nat) := (true, [([], []), ([], []), ([], []), ([], []), ([2, 3], [2, 3]), ([4], [4]), ([], []), ([], []), ([6, 7], [6, 7]), ([8], [8]), ([5, 9], [5, 9]), ([], []), ([11], [11]), ([10, 12], [10, 12]), ([0, 1, 0, 1, 2, 3, 4, 5, 6, 7, 8, 9, 10, 11, 12, 13], [0, 1]), ([14, 13, 0, 1, 2, 3, 4, 5, 6, 7, 8, 9, 10, 11, 12, 13], [13, 14])])
def r4Add.B6 : List Nat := [0, 0, 0, 0, 12, 28, 0, 0, 192, 448, 1020, 0, 2048, 8188, 16383, 32767]
theorem r4Add.tab6 : rtab .any (opsOf Try.f37 6) = r4Add.T6 := by kernel_rfl
theorem r4Add.bits6 : waitsOk r4Add.T6.2 r4Add.B6 = true := by kernel_rfl
set_option maxHeartbeats 8000000 in
set_option maxRecDepth 100000 in
theorem r4Add.calls (k : Nat) (a0_0 : Int) (a0_1 : Int) (A0_2 : Option Addr) (c0_2 : Nat) (l0_2 : List Int) (a1 : Int) (a2 : Int) (r : Int) (w : World) (hr0_2 : Kd.C (Kd.int .i64) w A0_2 l0_2.length l0_2) (hc0_2 : l0_2.length ≤ c0_2) (h : r4Add.f k a0_0 a0_1 l0_2 a1 a2 = some r) :
  Calls Try.prog 37 #[.agg #[.int .i64 a0_0, .int .i64 a0_1, .slice A0_2 l0_2.length c0_2], .int .i64 a1, .int .i64 a2] w fun e w' => e = .returned (.int .i64 r) ∧ Below w.heap.size w w' := by
 have hu24 := Try.underlying24
 have HR0_2 := Q9a.mk hr0_2
 have HC0_2 := Q9a.mk hc0_2
 clear hr0_2 hc0_2
 have HB := Q9a.mk (Below.refl w.heap.size w)
 have H : ((r4Digits.f k a0_0 a0_1 l0_2 a1).bind fun t277 => ((r4Digits.f k a0_0 a0_1 l0_2 a2).bind fun t280 => (r4Add.l0 k t277 t280 0 a0_0 a0_1 l0_2))) = some r := h
 clear h
 replace H := Option.bind_eq_some_iff.mp H
 obtain ⟨t277, A40, H⟩ := H
 replace H : ((r4Digits.f k a0_0 a0_1 l0_2 a2).bind fun t280 => (r4Add.l0 k t277 t280 0 a0_0 a0_1 l0_2)) = some r := H
 have A4 := Q9a.mk A40
 clear A40
 replace H := Option.bind_eq_some_iff.mp H
 obtain ⟨t280, A50, H⟩ := H
 replace H : (r4Add.l0 k t277 t280 0 a0_0 a0_1 l0_2) = some r := H
 have A5 := Q9a.mk A50
 clear A50
 have H' := Q9a.mk H
 clear H
 go_enter Try.func37, Try.ntmps37
 go_wp2_with (first | ((with_reducible refine gate_dst (N := 3) rfl ?_); refine box_event ?hg (N := 3) ?hd (cs := #[.int .i64 a0_0, .int .i64 a0_1, .slice A0_2 l0_2.length c0_2]) (t := 24) ?hr ?_; (case hd => rfl); (case hg => rfl); (case hr => first | (go_simp; done) | (go_simp; rfl)); intro gb276 hg w6 hbox hb; have n0_ := Q9a.mk (bP (by repeat (first | (with_reducible first | exact HB.out | apply bA | apply bN | apply bD) | exact HB.out)) hb); have n1_ := Q9a.mk (hbox); have n2_ := Q9a.mk ((by rw [hg]; exact (bZ (by repeat (first | (with_reducible first | exact HB.out | apply bA | apply bN | apply bD) | exact HB.out))) : w.heap.size ≤ gb276)); have n3_ := Q9a.mk ((by rw [hg]; exact (bZ (by repeat (first | (with_reducible first | exact HB.out | apply bA | apply bN | apply bD) | exact HB.out))) : w.heap.size ≤ gb276)); clear HB; have HB := n0_; have BK276 := n1_; have GW276 := n2_; have GE276 := n3_; clear n0_ n1_ n2_ n3_; clear hb hbox hg; have hcz7_0 : w6.cell? ⟨gb276, 0, none⟩ = some (.int .i64 a0_0) := (kC BK276.out 0).trans rfl; have hcz7_1 : w6.cell? ⟨gb276, 1, none⟩ = some (.int .i64 a0_1) := (kC BK276.out 1).trans rfl; have hcz7_2 : w6.cell? ⟨gb276, 2, none⟩ = some (.slice A0_2 l0_2.length c0_2) := (kC BK276.out 2).trans rfl; have hfz7_0 := kF BK276.out 0; have hfz7_1 := kF BK276.out 1; have hfz7_2 := kF BK276.out 2) | ((with_reducible refine gate_callee (f := 54) rfl ?_); refine goesL_ (some 12) rfl rfl Try.func54 (by kernel_rfl) rfl #[.agg #[.int .i64 a0_0, .int .i64 a0_1, .slice A0_2 l0_2.length c0_2], .int .i64 a1] rfl (by (try simp only [List.map_toArray, List.map_cons, List.map_nil]); first | done | rfl | (simp only [List.length_drop, List.length_take]; rfl)) ?_; (with_reducible refine (r4Digits.calls k a0_0 a0_1 _ _ l0_2 a1 t277 _ ?side1 ?side2 A4.out).mono ?_); (case side1 => repeat (first | exact (Kd.C_below HR0_2.out HB.out) | (with_reducible refine Kd.C_alloc ?_ _) | (with_reducible refine Kd.C_drewN ?_ _) | (with_reducible refine Kd.C_drew ?_))); (case side2 => exact HC0_2.out); rintro e w8 ⟨v278, rfl, ho0, hb⟩; refine ⟨_, rfl, ?_⟩; have n0_ := Q9a.mk (Kd.R_lower ho0 (bZ (by repeat (first | (with_reducible first | exact HB.out | apply bA | apply bN | apply bD | refine bS ?_ GE276.out) | exact HB.out)))); have n1_ := Q9a.mk (kB (g := gb276) (o := .cells #[.int .i64 a0_0, .int .i64 a0_1, .slice A0_2 l0_2.length c0_2] 24 (0, 0)) (by (with_reducible repeat (first | refine kN ?_ _ | refine kD ?_ | refine kA ?_ _)); exact BK276.out) hb); have n2_ := Q9a.mk (bP (by repeat (first | (with_reducible first | exact HB.out | apply bA | apply bN | apply bD | refine bS ?_ GE276.out) | exact HB.out)) hb); clear BK276; clear HB; have HO279 := n0_; have BK276 := n1_; have HB := n2_; clear n0_ n1_ n2_; (try clear hb); (try clear hb2); (try clear hk); (try clear hi); (try clear ho0); have hcz9_0 : w8.cell? ⟨gb276, 0, none⟩ = some (.int .i64 a0_0) := (kC BK276.out 0).trans rfl; have hcz9_1 : w8.cell? ⟨gb276, 1, none⟩ = some (.int .i64 a0_1) := (kC BK276.out 1).trans rfl; have hcz9_2 : w8.cell? ⟨gb276, 2, none⟩ = some (.slice A0_2 l0_2.length c0_2) := (kC BK276.out 2).trans rfl; have hfz9_0 := kF BK276.out 0; have hfz9_1 := kF BK276.out 1; have hfz9_2 := kF BK276.out 2) | ((with_reducible refine gate_callee (f := 54) rfl ?_); refine goesL_ (some 15) rfl rfl Try.func54 (by kernel_rfl) rfl #[.agg #[.int .i64 a0_0, .int .i64 a0_1, .slice A0_2 l0_2.length c0_2], .int .i64 a2] rfl (by (try simp only [List.map_toArray, List.map_cons, List.map_nil]); first | done | rfl | (simp only [List.length_drop, List.length_take]; rfl)) ?_; (with_reducible refine (r4Digits.calls k a0_0 a0_1 _ _ l0_2 a2 t280 _ ?side1 ?side2 A5.out).mono ?_); (case side1 => repeat (first | exact (Kd.C_below HR0_2.out HB.out) | (with_reducible refine Kd.C_alloc ?_ _) | (with_reducible refine Kd.C_drewN ?_ _) | (with_reducible refine Kd.C_drew ?_))); (case side2 => exact HC0_2.out); rintro e w10 ⟨v281, rfl, ho0, hb⟩; refine ⟨_, rfl, ?_⟩; have n0_ := Q9a.mk (Kd.R_elder' (by (with_reducible repeat (first | apply Kd.R_alloc | apply Kd.R_drewN | apply Kd.R_drew)); exact HO279.out) (Kd.R_base ho0) hb); have n1_ := Q9a.mk (Kd.R_lower (Kd.R_new' ho0 (Kd.R_lt (by (with_reducible repeat (first | apply Kd.R_alloc | apply Kd.R_drewN | apply Kd.R_drew)); exact HO279.out))) (bZ (by repeat (first | (with_reducible first | exact HB.out | apply bA | apply bN | apply bD | refine bS ?_ GE276.out) | exact HB.out)))); have n2_ := Q9a.mk (kB (g := gb276) (o := .cells #[.int .i64 a0_0, .int .i64 a0_1, .slice A0_2 l0_2.length c0_2] 24 (0, 0)) (by (with_reducible repeat (first | refine kN ?_ _ | refine kD ?_ | refine kA ?_ _)); exact BK276.out) hb); have n3_ := Q9a.mk (bP (by repeat (first | (with_reducible first | exact HB.out | apply bA | apply bN | apply bD | refine bS ?_ GE276.out) | exact HB.out)) hb); clear HO279; clear BK276; clear HB; have HO279 := n0_; have HO282 := n1_; have BK276 := n2_; have HB := n3_; clear n0_ n1_ n2_ n3_; (try clear hb); (try clear hb2); (try clear hk); (try clear hi); (try clear ho0)))
 go_loopg [9] k (fun kq v9 w' => ∃ (x7_1 : List Int) (x9_1 : Int), v9 = .int .i64 x9_1 ∧ Q9a (r4Add.l0 kq x7_1 t280 x9_1 a0_0 a0_1 l0_2 = some r) ∧ Q9a (kq ≤ k) ∧ Q9a (Kd.R (Kd.int .i64) 3 w' w.heap.size (fun k_ => some k_ ≠ (v281 : Value).ownBlock) v278 x7_1) ∧ Q9a (Kd.R (Kd.int .i64) 3 w' w.heap.size (fun k_ => some k_ ≠ (v278 : Value).ownBlock) v281 t280) ∧ Q9a (w'.heap[gb276]? = some (.cells #[.int .i64 a0_0, .int .i64 a0_1, (.slice A0_2 l0_2.length c0_2)] 24 (0, 0))) ∧ Q9a (Below w.heap.size w w'))
 case atStart => exact ⟨(t277), (0), (by first | rfl | (simp; done) | (simp [*]; done)), H', ⟨Nat.le_refl _⟩, ⟨by (with_reducible repeat (first | apply Kd.R_alloc | apply Kd.R_drewN | apply Kd.R_drew)); exact Kd.R_mono HO279.out (fun _ hk => hk.2)⟩, ⟨by (with_reducible repeat (first | apply Kd.R_alloc | apply Kd.R_drewN | apply Kd.R_drew)); exact Kd.R_mono HO282.out (fun _ hk => hk.2)⟩, ⟨by (with_reducible repeat (first | refine kN ?_ _ | refine kD ?_ | refine kA ?_ _)); exact BK276.out⟩, ⟨by repeat (first | (with_reducible first | exact HB.out | apply bA | apply bN | apply bD | refine bS ?_ GE276.out) | exact HB.out)⟩⟩
 case round =>
  clear H'
  try clear p2
  try clear c3
  try clear c5
  try clear hcz7_0
  try clear hcz7_1
  try clear hcz7_2
  try clear hcz9_0
  try clear hcz9_1
  try clear hcz9_2
  try clear hfz7_0
  try clear hfz7_1
  try clear hfz7_2
  try clear hfz9_0
  try clear hfz9_1
  try clear hfz9_2
  obtain ⟨x7_1, x9_1, rfl, HA, HK1, HO_7, HO_8, BK276, HB⟩ := hrel
  cases gk with
  | zero => exact absurd HA.out (by simp [r4Add.l0])
  | succ k1 =>
   have H := HA.out
   clear HA
   simp only [r4Add.l0] at H
   by_cases c11 : x9_1 < (x7_1.length : Int)
   ·rw [if_pos c11] at H
    have c11b0 : decide (x9_1 < (x7_1.length : Int)) = true := decide_eq_true c11
    clear c11
    by_cases c12 : 0 ≤ x9_1
    ·rw [if_pos c12] at H
     have c12b0 : decide (0 ≤ x9_1) = true := decide_eq_true c12
     clear c12
     by_cases c13 : x9_1 < (t280.length : Int)
     ·rw [if_pos c13] at H
      have c13b0 : decide (x9_1 < (t280.length : Int)) = true := decide_eq_true c13
      clear c13
      by_cases c14 : a0_0 = 0
      ·rw [if_pos c14] at H
       exact absurd H (by simp)
      ·rw [if_neg c14] at H
       have c14b0 : (a0_0 == 0) = false := beq_eq_false_iff_ne.mpr c14
       have c14b1 : (a0_0 != 0) = true := bne_iff_ne.mpr c14
       obtain ⟨y285, hy285⟩ : ∃ y_ : List Int, y_ = (x7_1.set (x9_1 : Int).toNat (Int.tmod (wrap64 ((rd x7_1 x9_1) + (rd t280 x9_1))) a0_0)) := ⟨_, rfl⟩
       replace H : (r4Add.l0 k1 y285 t280 (wrap64 (x9_1 + 1)) a0_0 a0_1 l0_2) = some r := by first | (rw [hy285]; with_reducible exact H) | (have H2_ := (Option.bind_some _ _).symm.trans H; rw [hy285]; with_reducible exact H2_) | (have H2_ := (Option.bind_some _ _).symm.trans H; with_reducible exact H2_) | with_reducible exact H | (rw [hy285]; exact H) | exact H
       have Ny285 := Q9a.mk hy285
       clear hy285
       have H' := Q9a.mk H
       clear H
       obtain ⟨Ao16, co16, eo16⟩ := Kd.R_slice HO_7.out
       subst eo16
       try go_wp2
       have n0_ := Q9a.mk (Kd.R_drew HO_7.out)
       have n1_ := Q9a.mk (Kd.R_drew HO_8.out)
       have n2_ := Q9a.mk (kD BK276.out)
       have n3_ := Q9a.mk (bD HB.out)
       clear HO_7
       clear HO_8
       clear BK276
       clear HB
       have HO_7 := n0_
       have HO_8 := n1_
       have BK276 := n2_
       have HB := n3_
       clear n0_ n1_ n2_ n3_
       have p283 : 0 ≤ (x9_1 : Int) := of_decide_eq_true (by first | (with_reducible assumption) | assumption)
       have q283 : x9_1 < (x7_1.length : Int) := of_decide_eq_true (by first | (with_reducible assumption) | assumption)
       obtain ⟨ad283, e283, hx283_0⟩ := Kd.at_int (Kd.R_reads' HO_7.out).2.2 x9_1 p283 q283
       cases e283
       replace p283 := eq_true p283
       replace q283 := eq_true q283
       obtain ⟨Ao18, co18, eo18⟩ := Kd.R_slice HO_8.out
       (first | subst eo18 | (injection eo18 with f1_ f2_ f3_; have f4_ := f1_.symm; have f5_ := f3_.symm; clear f1_ f2_ f3_; subst f4_; subst f5_))
       have p284 : 0 ≤ (x9_1 : Int) := of_decide_eq_true (by first | (with_reducible assumption) | assumption)
       have q284 : x9_1 < (t280.length : Int) := of_decide_eq_true (by first | (with_reducible assumption) | assumption)
       obtain ⟨ad284, e284, hx284_0⟩ := Kd.at_int (Kd.R_reads' HO_8.out).2.2 x9_1 p284 q284
       cases e284
       replace p284 := eq_true p284
       replace q284 := eq_true q284
       have p15 : 0 ≤ (x9_1 : Int) := of_decide_eq_true (by first | (with_reducible assumption) | assumption)
       have q15 : (x9_1 : Int) < ((x7_1.length : Int) : Int) := of_decide_eq_true (by first | (with_reducible assumption) | assumption)
       obtain ⟨go15, co15, eo15, gb15, gl15, cl15, HG15⟩ := Kd.R_form HO_7.out (by omega)
       (first | cases eo15 | (injection eo15 with ea_ en_ ec_; (first | subst ea_ | (injection ea_ with ea_; subst ea_)); subst ec_; clear en_))
       have GB15 := Q9a.mk gb15
       have GG15 := Q9a.mk HG15
       clear gb15 gl15 HG15
       (first | simp only [add_plain] at hx283_0 | skip)
       obtain ⟨hx15_0, hf15_0⟩ := Kd.R_celln 0 HO_7.out (x9_1 : Int) p15 q15
       replace p15 := eq_true p15
       replace q15 := eq_true q15
       have HP19 := Kd.R_putn HO_7.out (x9_1 : Int) (Int.tmod (wrap64 ((rd x7_1 x9_1) + (rd t280 x9_1))) a0_0)
       rw [← Ny285.out] at HP19
       have HQ19 := Q9a.mk HP19
       clear HP19
       refine start_ (n := 16) (S := fun w' => w'.cell? ⟨gb276, 0, none⟩ = some (.int .i64 a0_0) ∧ w'.cell? ⟨gb276, 1, none⟩ = some (.int .i64 a0_1) ∧ w'.cell? ⟨gb276, 2, none⟩ = some (.slice A0_2 l0_2.length c0_2) ∧ w'.cell? ⟨go15, (x9_1).toNat, none⟩ = some (.int .i64 (rd x7_1 x9_1)) ∧ w'.cell? (ad284.add (x9_1).toNat) = some (.int .i64 (rd t280 x9_1))) (ds := [15]) #[false, false, false, false, false, false, false, false, false, false, false, false, false, false, false, false] (by kernel_rfl) rfl rfl ⟨(kC BK276.out 0).trans rfl, (kC BK276.out 1).trans rfl, (kC BK276.out 2).trans rfl, hx283_0, hx284_0⟩ (fun hHeld => ?_); refine with_tabW r4Add.tab6 r4Add.bits6 (fun HT_ HW_ => ?_)
       generalize wr.drew = w17 at HO_7 HO_8 BK276 HB GG15 HQ19 hf15_0 hx15_0 hx283_0 hx284_0 hHeld ⊢
       refine pure_ (i := 0) (N := some 22) (v := ?_) (a' := ?_) #[true, false, false, false, false, false, false, false, false, false, false, false, false, false, false, false] rfl rfl (any_of HT_.out (by kernel_rfl)) (fun _ _ _ h => h) (Or.inl ⟨by rfl, ?_⟩) ?_ ?_
       rotate_left
       ·intro w'
        go_simp
        with_reducible rfl
       rotate_left
       ·simp only [Act.put, sz1, sz2, sz3, i64_w, i32_w]
        rfl
       refine pure_ (i := 1) (N := some 23) (v := ?_) (a' := ?_) #[true, true, false, false, false, false, false, false, false, false, false, false, false, false, false, false] rfl rfl (any_of HT_.out (by kernel_rfl)) (fun _ _ _ h => h) (Or.inl ⟨by rfl, ?_⟩) ?_ ?_
       rotate_left
       ·intro w'
        go_simp
        with_reducible rfl
       rotate_left
       ·simp only [Act.put, sz1, sz2, sz3, i64_w, i32_w]
        rfl
       refine pure_ (i := 2) (N := some 24) (v := ?_) (a' := ?_) #[true, true, true, false, false, false, false, false, false, false, false, false, false, false, false, false] rfl rfl (any_of HT_.out (by kernel_rfl)) (fun _ _ _ h => h) (Or.inl ⟨by rfl, ?_⟩) ?_ ?_
       rotate_left
       ·intro w'
        go_simp
        with_reducible rfl
       rotate_left
       ·simp only [Act.put, sz1, sz2, sz3, i64_w, i32_w]
        rfl
       refine pure_ (i := 3) (N := some 25) (v := ?_) (a' := ?_) #[true, true, true, true, false, false, false, false, false, false, false, false, false, false, false, false] rfl rfl (any_of HT_.out (by kernel_rfl)) (fun _ _ _ h => h) (Or.inl ⟨by rfl, ?_⟩) ?_ ?_
       rotate_left
       ·intro w'
        go_simp
        with_reducible rfl
       rotate_left
       ·simp only [Act.put, sz1, sz2, sz3, i64_w, i32_w]
        rfl
       refine pure_ (i := 4) (N := some 26) (v := ?_) (a' := ?_) #[true, true, true, true, true, false, false, false, false, false, false, false, false, false, false, false] rfl rfl (any_of HT_.out (by kernel_rfl)) (fun _ _ _ h => h) (Or.inl ⟨by rfl, ?_⟩) ?_ ?_
       rotate_left
       ·intro w'
        go_simp
        with_reducible rfl
       rotate_left
       ·simp only [Act.put, sz1, sz2, sz3, i64_w, i32_w]
        rfl
       refine pure_ (i := 6) (N := some 28) (v := ?_) (a' := ?_) #[true, true, true, true, true, false, true, false, false, false, false, false, false, false, false, false] rfl rfl (any_of HT_.out (by kernel_rfl)) (fun _ _ _ h => h) (Or.inl ⟨by rfl, ?_⟩) ?_ ?_
       rotate_left
       ·intro w'
        go_simp
        with_reducible rfl
       rotate_left
       ·simp only [Act.put, sz1, sz2, sz3, i64_w, i32_w]
        rfl
       refine pure_ (i := 7) (N := some 29) (v := ?_) (a' := ?_) #[true, true, true, true, true, false, true, true, false, false, false, false, false, false, false, false] rfl rfl (any_of HT_.out (by kernel_rfl)) (fun _ _ _ h => h) (Or.inl ⟨by rfl, ?_⟩) ?_ ?_
       rotate_left
       ·intro w'
        go_simp
        with_reducible rfl
       rotate_left
       ·simp only [Act.put, sz1, sz2, sz3, i64_w, i32_w]
        rfl
       refine pure_ (i := 8) (N := some 30) (v := ?_) (a' := ?_) #[true, true, true, true, true, false, true, true, true, false, false, false, false, false, false, false] rfl rfl (any_of HT_.out (by kernel_rfl)) (fun _ _ _ h => h) (Or.inl ⟨by rfl, ?_⟩) ?_ ?_
       rotate_left
       ·intro w'
        go_simp
        with_reducible rfl
       rotate_left
       ·simp only [Act.put, sz1, sz2, sz3, i64_w, i32_w]
        rfl
       refine pure_ (i := 11) (N := some 33) (v := ?_) (a' := ?_) #[true, true, true, true, true, false, true, true, true, false, false, true, false, false, false, false] rfl rfl (any_of HT_.out (by kernel_rfl)) (fun _ _ _ h => h) (Or.inl ⟨by rfl, ?_⟩) ?_ ?_
       rotate_left
       ·intro w'
        go_simp
        with_reducible rfl
       rotate_left
       ·simp only [Act.put, sz1, sz2, sz3, i64_w, i32_w]
        rfl
       refine take_ (i := 5) (N := some 27) (v := ?_) (a' := ?_) #[true, true, true, true, true, true, true, true, true, false, false, true, false, false, false, false] rfl rfl (take_ofW HT_.out HW_.out (by kernel_rfl)) (fun _ _ _ h => h) (Or.inl ⟨by rfl, ?_⟩) hHeld ?_ ?_
       rotate_left
       ·rintro w' ⟨s0, s1, s2, s3, s4⟩
        go_simp
        with_reducible rfl
       rotate_left
       ·simp only [Act.put, sz1, sz2, sz3, i64_w, i32_w]
        rfl
       refine take_ (i := 9) (N := some 31) (v := ?_) (a' := ?_) #[true, true, true, true, true, true, true, true, true, true, false, true, false, false, false, false] rfl rfl (take_ofW HT_.out HW_.out (by kernel_rfl)) (fun _ _ _ h => h) (Or.inl ⟨by rfl, ?_⟩) hHeld ?_ ?_
       rotate_left
       ·rintro w' ⟨s0, s1, s2, s3, s4⟩
        go_simp
        with_reducible rfl
       rotate_left
       ·simp only [Act.put, sz1, sz2, sz3, i64_w, i32_w]
        rfl
       refine pure_ (i := 10) (N := some 32) (v := ?_) (a' := ?_) #[true, true, true, true, true, true, true, true, true, true, true, true, false, false, false, false] rfl rfl (any_of HT_.out (by kernel_rfl)) (fun _ _ _ h => h) (Or.inl ⟨by rfl, ?_⟩) ?_ ?_
       rotate_left
       ·intro w'
        go_simp
        with_reducible rfl
       rotate_left
       ·simp only [Act.put, sz1, sz2, sz3, i64_w, i32_w]
        rfl
       refine take_ (i := 12) (N := some 34) (v := ?_) (a' := ?_) #[true, true, true, true, true, true, true, true, true, true, true, true, true, false, false, false] rfl rfl (take_ofW HT_.out HW_.out (by kernel_rfl)) (fun _ _ _ h => h) (Or.inl ⟨by rfl, ?_⟩) hHeld ?_ ?_
       rotate_left
       ·rintro w' ⟨s0, s1, s2, s3, s4⟩
        go_simp
        with_reducible rfl
       rotate_left
       ·simp only [Act.put, sz1, sz2, sz3, i64_w, i32_w]
        rfl
       refine pure_ (i := 13) (N := some 35) (v := ?_) (a' := ?_) #[true, true, true, true, true, true, true, true, true, true, true, true, true, true, false, false] rfl rfl (any_of HT_.out (by kernel_rfl)) (fun _ _ _ h => h) (Or.inl ⟨by rfl, ?_⟩) ?_ ?_
       rotate_left
       ·intro w'
        go_simp
        with_reducible rfl
       rotate_left
       ·simp only [Act.put, sz1, sz2, sz3, i64_w, i32_w]
        rfl
       refine pure_ (i := 14) (N := some 36) (v := ?_) (a' := ?_) #[true, true, true, true, true, true, true, true, true, true, true, true, true, true, true, false] rfl rfl (any_of HT_.out (by kernel_rfl)) (fun _ _ _ h => h) (Or.inl ⟨by rfl, ?_⟩) ?_ ?_
       rotate_left
       ·intro w'
        go_simp
        with_reducible rfl
       rotate_left
       ·simp only [Act.put, sz1, sz2, sz3, i64_w, i32_w]
        rfl
       refine last_ (i := 15) (N := none) #[true, true, true, true, true, true, true, true, true, true, true, true, true, true, true, true] rfl rfl (one_of HT_.out (by kernel_rfl)) (by decide) (fun K hK => ?_)
       refine skip_ (w1 := ?_) (by rfl) rfl ?_ ?_
       rotate_left
       ·go_simp
        rfl
       refine hK.out _ _ ?_
       clear hK K
       refine done_ (done_of HT_.out (by kernel_rfl)) ?_
       try go_wp2
       go_roundg k1
       case measure => have := HK1.out; omega
       case rel => exact ⟨(y285), (wrap64 (x9_1 + 1)), (by first | rfl | (simp; done) | (simp [*]; done)), H', ⟨by have := HK1.out; omega⟩, ⟨by (with_reducible repeat (first | apply Kd.R_alloc | apply Kd.R_drewN | apply Kd.R_drew)); exact HQ19.out⟩, ⟨by (with_reducible repeat (first | apply Kd.R_alloc | apply Kd.R_drewN | apply Kd.R_drew)); exact Kd.R_mono (Kd.R_far (p := ⟨go15, (x9_1 : Int).toNat, none⟩) (Kd.R_mono HO_8.out (fun k_ hk => (⟨hk, fun e_ => hk (by rw [e_]; rfl)⟩ : _ ∧ k_ ≠ go15))) (fun _ hk => hk.2) (.int .i64 (Int.tmod (wrap64 ((rd x7_1 x9_1) + (rd t280 x9_1))) a0_0))) (fun _ hk => hk.1)⟩, ⟨by (with_reducible repeat (first | refine kN ?_ _ | refine kD ?_ | refine kA ?_ _)); refine blk_far ?_ (by have h_ := Kd.R_ne HO_7.out BK276.out (by decide); intro e_; exact h_ (by rw [e_]; rfl)) _; (with_reducible repeat (first | refine kN ?_ _ | refine kD ?_ | refine kA ?_ _)); exact BK276.out⟩, ⟨by repeat (first | (with_reducible first | exact HB.out | apply bA | apply bN | apply bD | refine bS ?_ GB15.out | refine bS ?_ GE276.out) | exact HB.out)⟩⟩
     ·rw [if_neg c13] at H
      exact absurd H (by simp)
    ·rw [if_neg c12] at H
     exact absurd H (by simp)
   ·rw [if_neg c11] at H
    have c11b0 : decide (x9_1 < (x7_1.length : Int)) = false := decide_eq_false c11
    clear c11
    replace H := Option.bind_eq_some_iff.mp H
    obtain ⟨t286, A200, H⟩ := H
    replace H : (some t286) = some r := H
    have A20 := Q9a.mk A200
    clear A200
    obtain rfl := Option.some.inj H
    obtain ⟨Ao21, co21, eo21⟩ := Kd.R_slice HO_7.out
    subst eo21
    have hcz22_0 : wr.cell? ⟨gb276, 0, none⟩ = some (.int .i64 a0_0) := (kC BK276.out 0).trans rfl
    have hcz22_1 : wr.cell? ⟨gb276, 1, none⟩ = some (.int .i64 a0_1) := (kC BK276.out 1).trans rfl
    have hcz22_2 : wr.cell? ⟨gb276, 2, none⟩ = some (.slice A0_2 l0_2.length c0_2) := (kC BK276.out 2).trans rfl
    have hfz22_0 := kF BK276.out 0
    have hfz22_1 := kF BK276.out 1
    have hfz22_2 := kF BK276.out 2
    go_wp2_with (first | ((with_reducible refine gate_callee (f := 55) rfl ?_); refine goesL_ (some 39) rfl rfl Try.func55 (by kernel_rfl) rfl #[.agg #[.int .i64 a0_0, .int .i64 a0_1, .slice A0_2 l0_2.length c0_2], .slice Ao21 x7_1.length co21] rfl (by (try simp only [List.map_toArray, List.map_cons, List.map_nil]); first | done | rfl | (simp only [List.length_drop, List.length_take]; rfl)) ?_; (with_reducible refine (r4Value.calls k1 a0_0 a0_1 _ _ l0_2 _ _ x7_1 t286 _ ?side1 ?side2 ?side3 ?side4 A20.out).mono ?_); (case side1 => repeat (first | exact (Kd.C_below HR0_2.out HB.out) | (with_reducible refine Kd.C_alloc ?_ _) | (with_reducible refine Kd.C_drewN ?_ _) | (with_reducible refine Kd.C_drew ?_))); (case side2 => exact HC0_2.out); (case side3 => repeat (first | exact (Kd.R_reads' HO_7.out).2.2 | (with_reducible refine Kd.C_alloc ?_ _) | (with_reducible refine Kd.C_drewN ?_ _) | (with_reducible refine Kd.C_drew ?_))); (case side4 => exact (Kd.R_reads' HO_7.out).2.1); rintro e w23 ⟨rfl, hb⟩; refine ⟨_, rfl, ?_⟩; have n0_ := Q9a.mk (Kd.R_below (by (with_reducible repeat (first | apply Kd.R_alloc | apply Kd.R_drewN | apply Kd.R_drew)); exact HO_7.out) hb); have n1_ := Q9a.mk (Kd.R_below (by (with_reducible repeat (first | apply Kd.R_alloc | apply Kd.R_drewN | apply Kd.R_drew)); exact HO_8.out) hb); have n2_ := Q9a.mk (kB (g := gb276) (o := .cells #[.int .i64 a0_0, .int .i64 a0_1, .slice A0_2 l0_2.length c0_2] 24 (0, 0)) (by (with_reducible repeat (first | refine kN ?_ _ | refine kD ?_ | refine kA ?_ _)); exact BK276.out) hb); have n3_ := Q9a.mk (bP (by repeat (first | (with_reducible first | exact HB.out | apply bA | apply bN | apply bD | refine bS ?_ GE276.out) | exact HB.out)) hb); clear HO_7; clear HO_8; clear BK276; clear HB; have HO_7 := n0_; have HO_8 := n1_; have BK276 := n2_; have HB := n3_; clear n0_ n1_ n2_ n3_; (try clear hb); (try clear hb2); (try clear hk); (try clear hi)))
    go_ret
    exact ⟨by first | rfl | (simp [eN, eS] <;> rfl) | (simp [*, eN, eS] <;> rfl), by repeat (first | (with_reducible first | exact HB.out | apply bA | apply bN | apply bD | refine bS ?_ GE276.out) | exact HB.out)⟩
end
end Go.Proofs.Ytbohbfggmnjpdaa.P
end
-- Pa8
section
namespace Go.Proofs.Ytbohbfggmnjpdaa.P
noncomputable section
open Go.RowKit Go.Proofs.Ytbohbfggmnjpdaa.Hand Go.Proofs.YtbohbfggmnjpdaaW.PrintWords Go.Proofs.YtbohbfggmnjpdaaW.PrintLast Go.Proofs.YtbohbfggmnjpdaaW.PrintMore
set_option linter.unusedVariables false
set_option linter.unusedSimpArgs false
def r8Zech.f (k : Nat) (a0_0 : Int) (a0_1 : Int) (l0_2 : List Int) (a1 : Int) (a2 : Int) : Option (Int × Int) := (r4Pow.f k a0_0 a0_1 l0_2 a1 a2).bind fun bt288 => ((r4Add.f k a0_0 a0_1 l0_2 1 bt288.1).bind fun t290 => ((r8Solve.f k a0_0 a0_1 l0_2 a1 t290).bind fun bt291 => (some (bt291.1, bt291.2))))
def r8Zech.T2 : Bool × List (List Nat × List Nat) := (true, [([], []), ([], []), ([], []), ([], []), ([2, 3], [2, 3]), ([0, 1, 4, 4], [0, 1, 4]), ([5], [5]), ([5], [5]), ([6, 5, 0, 1, 2, 3, 4, 5, 6, 7], [6]), ([7, 8, 0, 1, 2, 3, 4, 5, 6, 7, 8], [7])])
def r8Zech.B2 : List Nat := [0, 0, 0, 0, 12, 31, 63, 63, 255, 511]
theorem r8Zech.tab2 : rtab .any (opsOf Try.f35 2) = r8Zech.T2 := by kernel_rfl
theorem r8Zech.bits2 : waitsOk r8Zech.T2.2 r8Zech.B2 = true := by kernel_rfl
set_option maxHeartbeats 8000000 in
set_option maxRecDepth 100000 in
theorem r8Zech.calls (k : Nat) (a0_0 : Int) (a0_1 : Int) (A0_2 : Option Addr) (c0_2 : Nat) (l0_2 : List Int) (a1 : Int) (a2 : Int) (r1 : Int) (r2 : Int) (w : World) (hr0_2 : Kd.C (Kd.int .i64) w A0_2 l0_2.length l0_2) (hc0_2 : l0_2.length ≤ c0_2) (h : r8Zech.f k a0_0 a0_1 l0_2 a1 a2 = some (r1, r2)) :
  Calls Try.prog 35 #[.agg #[.int .i64 a0_0, .int .i64 a0_1, .slice A0_2 l0_2.length c0_2], .int .i64 a1, .int .i64 a2] w fun e w' => e = .returned (.tuple #[.int .i64 r1, .int .i64 r2]) ∧ Below w.heap.size w w' := by
 have hu24 := Try.underlying24
 have HR0_2 := Q9a.mk hr0_2
 have HC0_2 := Q9a.mk hc0_2
 clear hr0_2 hc0_2
 have HB := Q9a.mk (Below.refl w.heap.size w)
 have H : ((r4Pow.f k a0_0 a0_1 l0_2 a1 a2).bind fun bt288 => ((r4Add.f k a0_0 a0_1 l0_2 1 bt288.1).bind fun t290 => ((r8Solve.f k a0_0 a0_1 l0_2 a1 t290).bind fun bt291 => (some (bt291.1, bt291.2))))) = some (r1, r2) := h
 clear h
 replace H := Option.bind_eq_some_iff.mp H
 obtain ⟨⟨t288, t289⟩, A40, H⟩ := H
 replace H : ((r4Add.f k a0_0 a0_1 l0_2 1 t288).bind fun t290 => ((r8Solve.f k a0_0 a0_1 l0_2 a1 t290).bind fun bt291 => (some (bt291.1, bt291.2)))) = some (r1, r2) := H
 have A4 := Q9a.mk A40
 clear A40
 replace H := Option.bind_eq_some_iff.mp H
 obtain ⟨t290, A50, H⟩ := H
 replace H : ((r8Solve.f k a0_0 a0_1 l0_2 a1 t290).bind fun bt291 => (some (bt291.1, bt291.2))) = some (r1, r2) := H
 have A5 := Q9a.mk A50
 clear A50
 replace H := Option.bind_eq_some_iff.mp H
 obtain ⟨⟨t291, t292⟩, A60, H⟩ := H
 replace H : (some (t291, t292)) = some (r1, r2) := H
 have A6 := Q9a.mk A60
 clear A60
 simp only [Option.some.injEq, Prod.mk.injEq] at H
 obtain ⟨rfl, rfl⟩ := H
 go_enter Try.func35, Try.ntmps35
 try go_wp2_with (first | ((with_reducible refine gate_dst (N := 3) rfl ?_); refine box_event ?hg (N := 3) ?hd (cs := #[.int .i64 a0_0, .int .i64 a0_1, .slice A0_2 l0_2.length c0_2]) (t := 24) ?hr ?_; (case hd => rfl); (case hg => rfl); (case hr => first | (go_simp; done) | (go_simp; rfl)); intro gb287 hg w7 hbox hb; have n0_ := Q9a.mk (bP (by repeat (first | (with_reducible first | exact HB.out | apply bA | apply bN | apply bD) | exact HB.out)) hb); have n1_ := Q9a.mk (hbox); have n2_ := Q9a.mk ((by rw [hg]; exact (bZ (by repeat (first | (with_reducible first | exact HB.out | apply bA | apply bN | apply bD) | exact HB.out))) : w.heap.size ≤ gb287)); have n3_ := Q9a.mk ((by rw [hg]; exact (bZ (by repeat (first | (with_reducible first | exact HB.out | apply bA | apply bN | apply bD) | exact HB.out))) : w.heap.size ≤ gb287)); clear HB; have HB := n0_; have BK287 := n1_; have GW287 := n2_; have GE287 := n3_; clear n0_ n1_ n2_ n3_; clear hb hbox hg; have hcz8_0 : w7.cell? ⟨gb287, 0, none⟩ = some (.int .i64 a0_0) := (kC BK287.out 0).trans rfl; have hcz8_1 : w7.cell? ⟨gb287, 1, none⟩ = some (.int .i64 a0_1) := (kC BK287.out 1).trans rfl; have hcz8_2 : w7.cell? ⟨gb287, 2, none⟩ = some (.slice A0_2 l0_2.length c0_2) := (kC BK287.out 2).trans rfl; have hfz8_0 := kF BK287.out 0; have hfz8_1 := kF BK287.out 1; have hfz8_2 := kF BK287.out 2) | ((with_reducible refine gate_callee (f := 30) rfl ?_); refine goesL_ (some 14) rfl rfl Try.func30 (by kernel_rfl) rfl #[.agg #[.int .i64 a0_0, .int .i64 a0_1, .slice A0_2 l0_2.length c0_2], .int .i64 a1, .int .i64 a2] rfl (by (try simp only [List.map_toArray, List.map_cons, List.map_nil]); first | done | rfl | (simp only [List.length_drop, List.length_take]; rfl)) ?_; (with_reducible refine (r4Pow.calls k a0_0 a0_1 _ _ l0_2 a1 a2 t288 t289 _ ?side1 ?side2 A4.out).mono ?_); (case side1 => repeat (first | exact (Kd.C_below HR0_2.out HB.out) | (with_reducible refine Kd.C_alloc ?_ _) | (with_reducible refine Kd.C_drewN ?_ _) | (with_reducible refine Kd.C_drew ?_))); (case side2 => exact HC0_2.out); rintro e w9 ⟨rfl, hb⟩; refine ⟨_, rfl, ?_⟩; have n0_ := Q9a.mk (kB (g := gb287) (o := .cells #[.int .i64 a0_0, .int .i64 a0_1, .slice A0_2 l0_2.length c0_2] 24 (0, 0)) (by (with_reducible repeat (first | refine kN ?_ _ | refine kD ?_ | refine kA ?_ _)); exact BK287.out) hb); have n1_ := Q9a.mk (bP (by repeat (first | (with_reducible first | exact HB.out | apply bA | apply bN | apply bD | refine bS ?_ GE287.out) | exact HB.out)) hb); clear BK287; clear HB; have BK287 := n0_; have HB := n1_; clear n0_ n1_; (try clear hb); (try clear hb2); (try clear hk); (try clear hi)))
 have n0_ := Q9a.mk (kD BK287.out)
 have n1_ := Q9a.mk (bD HB.out)
 clear BK287
 clear HB
 have BK287 := n0_
 have HB := n1_
 clear n0_ n1_
 refine start_ (n := 10) (S := fun w' => w'.cell? ⟨gb287, 0, none⟩ = some (.int .i64 a0_0) ∧ w'.cell? ⟨gb287, 1, none⟩ = some (.int .i64 a0_1) ∧ w'.cell? ⟨gb287, 2, none⟩ = some (.slice A0_2 l0_2.length c0_2)) (ds := []) #[false, false, false, false, false, false, false, false, false, false] (by kernel_rfl) rfl rfl ⟨(kC BK287.out 0).trans rfl, (kC BK287.out 1).trans rfl, (kC BK287.out 2).trans rfl⟩ (fun hHeld => ?_); refine with_tabW r8Zech.tab2 r8Zech.bits2 (fun HT_ HW_ => ?_)
 generalize w9.drew = w10 at BK287 HB hHeld ⊢
 refine pure_ (i := 1) (N := some 18) (v := ?_) (a' := ?_) #[false, true, false, false, false, false, false, false, false, false] rfl rfl (any_of HT_.out (by kernel_rfl)) (fun _ _ _ h => h) (Or.inl ⟨by rfl, ?_⟩) ?_ ?_
 rotate_left
 ·intro w'
  go_simp
  with_reducible rfl
 rotate_left
 ·simp only [Act.put, sz1, sz2, sz3, i64_w, i32_w]
  rfl
 refine pure_ (i := 3) (N := some 20) (v := ?_) (a' := ?_) #[false, true, false, true, false, false, false, false, false, false] rfl rfl (any_of HT_.out (by kernel_rfl)) (fun _ _ _ h => h) (Or.inl ⟨by rfl, ?_⟩) ?_ ?_
 rotate_left
 ·intro w'
  go_simp
  with_reducible rfl
 rotate_left
 ·simp only [Act.put, sz1, sz2, sz3, i64_w, i32_w]
  rfl
 refine take_ (i := 0) (N := some 17) (v := ?_) (a' := ?_) #[true, true, false, true, false, false, false, false, false, false] rfl rfl (take_ofW HT_.out HW_.out (by kernel_rfl)) (fun _ _ _ h => h) (Or.inl ⟨by rfl, ?_⟩) hHeld ?_ ?_
 rotate_left
 ·rintro w' ⟨s0, s1, s2⟩
  go_simp
  with_reducible rfl
 rotate_left
 ·simp only [Act.put, sz1, sz2, sz3, i64_w, i32_w]
  rfl
 refine take_ (i := 2) (N := some 19) (v := ?_) (a' := ?_) #[true, true, true, true, false, false, false, false, false, false] rfl rfl (take_ofW HT_.out HW_.out (by kernel_rfl)) (fun _ _ _ h => h) (Or.inl ⟨by rfl, ?_⟩) hHeld ?_ ?_
 rotate_left
 ·rintro w' ⟨s0, s1, s2⟩
  go_simp
  with_reducible rfl
 rotate_left
 ·simp only [Act.put, sz1, sz2, sz3, i64_w, i32_w]
  rfl
 refine one_ (i := 4) (N := some 21) #[true, true, true, true, true, false, false, false, false, false] rfl rfl (one_of HT_.out (by kernel_rfl)) (by decide) (fun K hK => ?_)
 refine goes_ Try.func37 (by kernel_rfl) rfl #[.agg #[.int .i64 a0_0, .int .i64 a0_1, .slice A0_2 l0_2.length c0_2], .int .i64 1, .int .i64 t288] (by rfl) rfl rfl (by (try simp only [List.map_toArray, List.map_cons, List.map_nil]); first | done | rfl | (simp only [List.length_drop, List.length_take]; rfl)) ?_
 with_reducible refine (r4Add.calls k a0_0 a0_1 _ _ l0_2 1 t288 t290 _ ?side1 ?side2 A5.out).mono ?_
 (case side1 => repeat (first | exact (Kd.C_below HR0_2.out HB.out) | (with_reducible refine Kd.C_alloc ?_ _) | (with_reducible refine Kd.C_drewN ?_ _) | (with_reducible refine Kd.C_drew ?_)))
 (case side2 => exact HC0_2.out)
 rintro e w11 ⟨rfl, hb⟩
 refine ⟨_, rfl, ?_⟩
 have n0_ := Q9a.mk (kB (g := gb287) (o := .cells #[.int .i64 a0_0, .int .i64 a0_1, .slice A0_2 l0_2.length c0_2] 24 (0, 0)) (by (with_reducible repeat (first | refine kN ?_ _ | refine kD ?_ | refine kA ?_ _)); exact BK287.out) hb)
 have n1_ := Q9a.mk (bP (by repeat (first | (with_reducible first | exact HB.out | apply bA | apply bN | apply bD | refine bS ?_ GE287.out) | exact HB.out)) hb)
 clear BK287
 clear HB
 have BK287 := n0_
 have HB := n1_
 clear n0_ n1_
 (try clear hb)
 (try clear hb2)
 (try clear hk)
 (try clear hi)
 refine hK.out _ _ ⟨(kC BK287.out 0).trans rfl, (kC BK287.out 1).trans rfl, (kC BK287.out 2).trans rfl⟩ (fun hHeld => ?_)
 clear hK K
 refine norm_ (a' := ?_) ?_ ?_
 rotate_left
 ·show Act.put _ (some 21) _ = _
  simp only [Act.put, sz1, sz2, sz3, i64_w, i32_w]
  rfl
 refine one_ (i := 5) (N := some 22) #[true, true, true, true, true, true, false, false, false, false] rfl rfl (one_of HT_.out (by kernel_rfl)) (by decide) (fun K hK => ?_)
 refine goes_ Try.func25 (by kernel_rfl) rfl #[.agg #[.int .i64 a0_0, .int .i64 a0_1, .slice A0_2 l0_2.length c0_2], .int .i64 a1, .int .i64 t290] (by rfl) rfl rfl (by (try simp only [List.map_toArray, List.map_cons, List.map_nil]); first | done | rfl | (simp only [List.length_drop, List.length_take]; rfl)) ?_
 with_reducible refine (r8Solve.calls k a0_0 a0_1 _ _ l0_2 a1 t290 t291 t292 _ ?side1 ?side2 A6.out).mono ?_
 (case side1 => repeat (first | exact (Kd.C_below HR0_2.out HB.out) | (with_reducible refine Kd.C_alloc ?_ _) | (with_reducible refine Kd.C_drewN ?_ _) | (with_reducible refine Kd.C_drew ?_)))
 (case side2 => exact HC0_2.out)
 rintro e w12 ⟨rfl, hb⟩
 refine ⟨_, rfl, ?_⟩
 have n0_ := Q9a.mk (kB (g := gb287) (o := .cells #[.int .i64 a0_0, .int .i64 a0_1, .slice A0_2 l0_2.length c0_2] 24 (0, 0)) (by (with_reducible repeat (first | refine kN ?_ _ | refine kD ?_ | refine kA ?_ _)); exact BK287.out) hb)
 have n1_ := Q9a.mk (bP (by repeat (first | (with_reducible first | exact HB.out | apply bA | apply bN | apply bD | refine bS ?_ GE287.out) | exact HB.out)) hb)
 clear BK287
 clear HB
 have BK287 := n0_
 have HB := n1_
 clear n0_ n1_
 (try clear hb)
 (try clear hb2)
 (try clear hk)
 (try clear hi)
 refine hK.out _ _ ⟨(kC BK287.out 0).trans rfl, (kC BK287.out 1).trans rfl, (kC BK287.out 2).trans rfl⟩ (fun hHeld => ?_)
 clear hK K
 refine norm_ (a' := ?_) ?_ ?_
 rotate_left
 ·show Act.put _ (some 22) _ = _
  simp only [Act.put, sz1, sz2, sz3, i64_w, i32_w]
  rfl
 refine pure_ (i := 6) (N := some 23) (v := ?_) (a' := ?_) #[true, true, true, true, true, true, true, false, false, false] rfl rfl (any_of HT_.out (by kernel_rfl)) (fun _ _ _ h => h) (Or.inl ⟨by rfl, ?_⟩) ?_ ?_
 rotate_left
 ·intro w'
  go_simp
  with_reducible rfl
 rotate_left
 ·simp only [Act.put, sz1, sz2, sz3, i64_w, i32_w]
  rfl
 refine pure_ (i := 7) (N := some 24) (v := ?_) (a' := ?_) #[true, true, true, true, true, true, true, true, false, false] rfl rfl (any_of HT_.out (by kernel_rfl)) (fun _ _ _ h => h) (Or.inl ⟨by rfl, ?_⟩) ?_ ?_
 rotate_left
 ·intro w'
  go_simp
  with_reducible rfl
 rotate_left
 ·simp only [Act.put, sz1, sz2, sz3, i64_w, i32_w]
  rfl
 refine pure_ (i := 8) (N := some 6) (v := ?_) (a' := ?_) #[true, true, true, true, true, true, true, true, true, false] rfl rfl (any_of HT_.out (by kernel_rfl)) (fun _ _ _ h => h) (Or.inl ⟨by rfl, ?_⟩) ?_ ?_
 rotate_left
 ·intro w'
  go_simp
  with_reducible rfl
 rotate_left
 ·simp only [Act.put, sz1, sz2, sz3, i64_w, i32_w]
  rfl
 refine pure_ (i := 9) (N := some 7) (v := ?_) (a' := ?_) #[true, true, true, true, true, true, true, true, true, true] rfl rfl (any_of HT_.out (by kernel_rfl)) (fun _ _ _ h => h) (Or.inl ⟨by rfl, ?_⟩) ?_ ?_
 rotate_left
 ·intro w'
  go_simp
  with_reducible rfl
 rotate_left
 ·simp only [Act.put, sz1, sz2, sz3, i64_w, i32_w]
  rfl
 refine done_ (done_of HT_.out (by kernel_rfl)) ?_
 try go_wp2
 go_ret2
 exact ⟨by first | rfl | (simp [eN, eS] <;> rfl) | (simp [*, eN, eS] <;> rfl), by repeat (first | (with_reducible first | exact HB.out | apply bA | apply bN | apply bD | refine bS ?_ GE287.out) | exact HB.out)⟩
end
end Go.Proofs.Ytbohbfggmnjpdaa.P
end
-- Gs0
section
namespace Go.Proofs.Ytbohbfggmnjpdaa.GS
noncomputable section
open Go.RowKit Go.Proofs.Ytbohbfggmnjpdaa.Hand Go.Proofs.YtbohbfggmnjpdaaW.PrintWords Go.Proofs.YtbohbfggmnjpdaaW.PrintLast Go.Proofs.YtbohbfggmnjpdaaW.PrintMore
set_option linter.unusedVariables false
set_option linter.unusedSimpArgs false
def errW : Option Int → Value
 | none => .nilIface
 | some c => .iface 0 (.int .i64 c)
theorem eN : errW none = .nilIface := rfl
theorem eS (c : Int) : errW (some c) = .iface 0 (.int .i64 c) := rfl
end
end Go.Proofs.Ytbohbfggmnjpdaa.GS
end
-- Gs1
section
namespace Go.Proofs.Ytbohbfggmnjpdaa.GS
noncomputable section
open Go.RowKit Go.Proofs.Ytbohbfggmnjpdaa.Hand Go.Proofs.YtbohbfggmnjpdaaW.PrintWords Go.Proofs.YtbohbfggmnjpdaaW.PrintLast Go.Proofs.YtbohbfggmnjpdaaW.PrintMore
set_option linter.unusedVariables false
set_option linter.unusedSimpArgs false
def IsS68 (w0 W : World) (g : Nat) (f0 : Int) (f1 : Int) (f2 : List Int) (f3 : Int) (f4 : List Int) (f5 : List Int) : Prop := ∃ A2 c2, ∃ A4 c4, ∃ A5 c5, W.heap[g]? = some (.cells #[.int .i64 f0, .int .i64 f1, .slice A2 f2.length c2, .int .i64 f3, .slice A4 f4.length c4, .slice A5 f5.length c5] 68 (0, 0)) ∧ True ∧ Kd.C (Kd.int .i64) w0 A2 f2.length f2 ∧ Kd.C (Kd.int .i64) w0 A4 f4.length f4 ∧ Kd.C (Kd.int .i64) w0 A5 f5.length f5
theorem IsS68.drewN {w0 W : World} {g : Nat} {f0 : Int} {f1 : Int} {f2 : List Int} {f3 : Int} {f4 : List Int} {f5 : List Int} (h : IsS68 w0 W g f0 f1 f2 f3 f4 f5) (m : Nat) : IsS68 w0 (W.drewN m) g f0 f1 f2 f3 f4 f5 := h
theorem cellS68_0 {W : World} {g : Nat} {A2 : Option Addr} {c2 : Nat} {A4 : Option Addr} {c4 : Nat} {A5 : Option Addr} {c5 : Nat} {f0 : Int} {f1 : Int} {f2 : List Int} {f3 : Int} {f4 : List Int} {f5 : List Int} (h : W.heap[g]? = some (.cells #[.int .i64 f0, .int .i64 f1, .slice A2 f2.length c2, .int .i64 f3, .slice A4 f4.length c4, .slice A5 f5.length c5] 68 (0, 0))) : W.cell? ⟨g, 0, none⟩ = some (.int .i64 f0) := (kC h 0).trans rfl
theorem cellS68_1 {W : World} {g : Nat} {A2 : Option Addr} {c2 : Nat} {A4 : Option Addr} {c4 : Nat} {A5 : Option Addr} {c5 : Nat} {f0 : Int} {f1 : Int} {f2 : List Int} {f3 : Int} {f4 : List Int} {f5 : List Int} (h : W.heap[g]? = some (.cells #[.int .i64 f0, .int .i64 f1, .slice A2 f2.length c2, .int .i64 f3, .slice A4 f4.length c4, .slice A5 f5.length c5] 68 (0, 0))) : W.cell? ⟨g, 1, none⟩ = some (.int .i64 f1) := (kC h 1).trans rfl
theorem cellS68_2 {W : World} {g : Nat} {A2 : Option Addr} {c2 : Nat} {A4 : Option Addr} {c4 : Nat} {A5 : Option Addr} {c5 : Nat} {f0 : Int} {f1 : Int} {f2 : List Int} {f3 : Int} {f4 : List Int} {f5 : List Int} (h : W.heap[g]? = some (.cells #[.int .i64 f0, .int .i64 f1, .slice A2 f2.length c2, .int .i64 f3, .slice A4 f4.length c4, .slice A5 f5.length c5] 68 (0, 0))) : W.cell? ⟨g, 2, none⟩ = some (.slice A2 f2.length c2) := (kC h 2).trans rfl
theorem cellS68_3 {W : World} {g : Nat} {A2 : Option Addr} {c2 : Nat} {A4 : Option Addr} {c4 : Nat} {A5 : Option Addr} {c5 : Nat} {f0 : Int} {f1 : Int} {f2 : List Int} {f3 : Int} {f4 : List Int} {f5 : List Int} (h : W.heap[g]? = some (.cells #[.int .i64 f0, .int .i64 f1, .slice A2 f2.length c2, .int .i64 f3, .slice A4 f4.length c4, .slice A5 f5.length c5] 68 (0, 0))) : W.cell? ⟨g, 3, none⟩ = some (.int .i64 f3) := (kC h 3).trans rfl
theorem cellS68_4 {W : World} {g : Nat} {A2 : Option Addr} {c2 : Nat} {A4 : Option Addr} {c4 : Nat} {A5 : Option Addr} {c5 : Nat} {f0 : Int} {f1 : Int} {f2 : List Int} {f3 : Int} {f4 : List Int} {f5 : List Int} (h : W.heap[g]? = some (.cells #[.int .i64 f0, .int .i64 f1, .slice A2 f2.length c2, .int .i64 f3, .slice A4 f4.length c4, .slice A5 f5.length c5] 68 (0, 0))) : W.cell? ⟨g, 4, none⟩ = some (.slice A4 f4.length c4) := (kC h 4).trans rfl
theorem cellS68_5 {W : World} {g : Nat} {A2 : Option Addr} {c2 : Nat} {A4 : Option Addr} {c4 : Nat} {A5 : Option Addr} {c5 : Nat} {f0 : Int} {f1 : Int} {f2 : List Int} {f3 : Int} {f4 : List Int} {f5 : List Int} (h : W.heap[g]? = some (.cells #[.int .i64 f0, .int .i64 f1, .slice A2 f2.length c2, .int .i64 f3, .slice A4 f4.length c4, .slice A5 f5.length c5] 68 (0, 0))) : W.cell? ⟨g, 5, none⟩ = some (.slice A5 f5.length c5) := (kC h 5).trans rfl
def field_GF_Is.f (s0_0 : Int) (s0_1 : Int) (s0_2 : List Int) (s0_3 : Int) (s0_4 : List Int) (s0_5 : List Int) (a1 : Int) : Option (Bool × Int × Int × Int) := if a1 ≥ 0 then (some (decide (a1 < s0_3), s0_0, s0_1, s0_3)) else (some (false, s0_0, s0_1, s0_3))
set_option maxHeartbeats 8000000 in
set_option maxRecDepth 100000 in
theorem field_GF_Is.calls (g : Nat) (s0_0 : Int) (s0_1 : Int) (s0_2 : List Int) (s0_3 : Int) (s0_4 : List Int) (s0_5 : List Int) (a1 : Int) (r1 : Bool) (r2 : Int) (r3 : Int) (r4 : Int) (w0 w : World) (hI : IsS68 w0 w g s0_0 s0_1 s0_2 s0_3 s0_4 s0_5) (hB : Below w0.heap.size w0 w) (h : field_GF_Is.f s0_0 s0_1 s0_2 s0_3 s0_4 s0_5 a1 = some (r1, r2, r3, r4)) :
  Calls Try.prog 40 #[.pointer (some ⟨g, 0, none⟩), .int .i64 a1] w fun e w' => e = .returned (.bool r1) ∧ IsS68 w0 w' g r2 r3 s0_2 r4 s0_4 s0_5 ∧ Below w0.heap.size w0 w' ∧ KeepBut w w' g none := by
 have HI0 := Q9a.mk hI
 have HK := Q9a.mk (KeepBut.refl w g none)
 have HL := Q9a.mk hB.size
 clear hI
 have HW0 := Q9a.mk hB.size
 have HB := Q9a.mk hB
 clear hB
 have H : (if a1 ≥ 0 then (some (decide (a1 < s0_3), s0_0, s0_1, s0_3)) else (some (false, s0_0, s0_1, s0_3))) = some (r1, r2, r3, r4) := h
 clear h
 by_cases c3 : a1 ≥ 0
 ·rw [if_pos c3] at H
  have c3b0 : decide (0 ≤ a1) = true := decide_eq_true c3
  clear c3
  simp only [Option.some.injEq, Prod.mk.injEq] at H
  obtain ⟨rfl, rfl, rfl, rfl⟩ := H
  obtain ⟨ASz4_2, cSz4_2, ASz4_4, cSz4_4, ASz4_5, cSz4_5, HGz4, hgz4, HSz4_2, HSz4_4, HSz4_5⟩ := HI0.out
  have hcz4_0 := cellS68_0 HGz4
  have hcz4_1 := cellS68_1 HGz4
  have hcz4_2 := cellS68_2 HGz4
  have hcz4_3 := cellS68_3 HGz4
  have hcz4_4 := cellS68_4 HGz4
  have hcz4_5 := cellS68_5 HGz4
  have hfz4_0 := kF HGz4 0
  have hfz4_1 := kF HGz4 1
  have hfz4_3 := kF HGz4 3
  clear HGz4 hgz4
  go_enter Try.func40, Try.ntmps40
  go_wp2
  go_ret
  exact ⟨by first | rfl | (simp [eN, eS] <;> rfl) | (simp [*, eN, eS] <;> rfl), by repeat (first | (with_reducible first | exact HI0.out | apply IsS68.alloc | apply IsS68.drewN | apply IsS68.drew | apply IsS68.set_0 | apply IsS68.set_1 | apply IsS68.set_3) | exact HI0.out), by repeat (first | (with_reducible first | exact HB.out | apply bA | apply bN | apply bD | refine bS ?_ (IsS68.ge HI0.out)) | exact HB.out), by repeat (first | (with_reducible first | exact HK.out | apply KeepBut.set_ | apply keep_drewN | apply keep_drew | apply keep_alloc) | exact HK.out)⟩
 ·rw [if_neg c3] at H
  have c3b0 : decide (0 ≤ a1) = false := decide_eq_false c3
  clear c3
  simp only [Option.some.injEq, Prod.mk.injEq] at H
  obtain ⟨rfl, rfl, rfl, rfl⟩ := H
  go_enter Try.func40, Try.ntmps40
  go_wp2
  go_ret
  exact ⟨by first | rfl | (simp [eN, eS] <;> rfl) | (simp [*, eN, eS] <;> rfl), by repeat (first | (with_reducible first | exact HI0.out | apply IsS68.alloc | apply IsS68.drewN | apply IsS68.drew | apply IsS68.set_0 | apply IsS68.set_1 | apply IsS68.set_3) | exact HI0.out), by repeat (first | (with_reducible first | exact HB.out | apply bA | apply bN | apply bD | refine bS ?_ (IsS68.ge HI0.out)) | exact HB.out), by repeat (first | (with_reducible first | exact HK.out | apply KeepBut.set_ | apply keep_drewN | apply keep_drew | apply keep_alloc) | exact HK.out)⟩
def field_GF_in.f (s0_0 : Int) (s0_1 : Int) (s0_2 : List Int) (s0_3 : Int) (s0_4 : List Int) (s0_5 : List Int) (a1 : Int) : Option (Int × Int × Int × Int) := (field_GF_Is.f s0_0 s0_1 s0_2 s0_3 s0_4 s0_5 a1).bind fun bt101 => (if bt101.1 = true then (some (a1, bt101.2.1, bt101.2.2.1, bt101.2.2.2)) else (some (0, bt101.2.1, bt101.2.2.1, bt101.2.2.2)))
set_option maxHeartbeats 8000000 in
set_option maxRecDepth 100000 in
theorem field_GF_in.calls (g : Nat) (s0_0 : Int) (s0_1 : Int) (s0_2 : List Int) (s0_3 : Int) (s0_4 : List Int) (s0_5 : List Int) (a1 : Int) (r1 : Int) (r2 : Int) (r3 : Int) (r4 : Int) (w0 w : World) (hI : IsS68 w0 w g s0_0 s0_1 s0_2 s0_3 s0_4 s0_5) (hB : Below w0.heap.size w0 w) (h : field_GF_in.f s0_0 s0_1 s0_2 s0_3 s0_4 s0_5 a1 = some (r1, r2, r3, r4)) :
  Calls Try.prog 44 #[.pointer (some ⟨g, 0, none⟩), .int .i64 a1] w fun e w' => e = .returned (.int .i64 r1) ∧ IsS68 w0 w' g r2 r3 s0_2 r4 s0_4 s0_5 ∧ Below w0.heap.size w0 w' ∧ KeepBut w w' g none := by
 have HI0 := Q9a.mk hI
 have HK := Q9a.mk (KeepBut.refl w g none)
 have HL := Q9a.mk hB.size
 clear hI
 have HW0 := Q9a.mk hB.size
 have HB := Q9a.mk hB
 clear hB
 have H : ((field_GF_Is.f s0_0 s0_1 s0_2 s0_3 s0_4 s0_5 a1).bind fun bt101 => (if bt101.1 = true then (some (a1, bt101.2.1, bt101.2.2.1, bt101.2.2.2)) else (some (0, bt101.2.1, bt101.2.2.1, bt101.2.2.2)))) = some (r1, r2, r3, r4) := h
 clear h
 replace H := Option.bind_eq_some_iff.mp H
 obtain ⟨⟨t101, t102, t103, t104⟩, A30, H⟩ := H
 replace H : (if t101 = true then (some (a1, t102, t103, t104)) else (some (0, t102, t103, t104))) = some (r1, r2, r3, r4) := H
 have A3 := Q9a.mk A30
 clear A30
 by_cases c4 : t101 = true
 ·subst c4
  have H1 : (some (a1, t102, t103, t104)) = some (r1, r2, r3, r4) := by rw [if_pos rfl] at H; exact H
  clear H
  have H := H1
  clear H1
  simp only [Option.some.injEq, Prod.mk.injEq] at H
  obtain ⟨rfl, rfl, rfl, rfl⟩ := H
  go_enter Try.func44, Try.ntmps44
  go_wp2_with (first | ((with_reducible refine gate_callee (f := 40) rfl ?_); refine goesL_ (some 7) rfl rfl Try.func40 (by kernel_rfl) rfl #[.pointer (some ⟨g, 0, none⟩), .int .i64 a1] rfl (by (try simp only [List.map_toArray, List.map_cons, List.map_nil]); first | done | rfl | (simp only [List.length_drop, List.length_take]; rfl)) ?_; (with_reducible refine (field_GF_Is.calls g s0_0 s0_1 s0_2 s0_3 s0_4 s0_5 a1 true t102 t103 t104 w0 _ ?side1 ?side2 A3.out).mono ?_); (case side1 => repeat (first | (with_reducible first | exact HI0.out | apply IsS68.alloc | apply IsS68.drewN | apply IsS68.drew | apply IsS68.set_0 | apply IsS68.set_1 | apply IsS68.set_3) | exact HI0.out)); (case side2 => repeat (first | (with_reducible first | exact HB.out | apply bA | apply bN | apply bD | refine bS ?_ (IsS68.ge HI0.out)) | exact HB.out)); rintro e w5 ⟨rfl, hi, hb, hk⟩; refine ⟨_, rfl, ?_⟩; have n0_ := Q9a.mk (KeepBut.trans (by repeat (first | (with_reducible first | exact HK.out | apply KeepBut.set_ | apply keep_drewN | apply keep_drew | apply keep_alloc) | exact HK.out)) hk (.inl rfl)); have n1_ := Q9a.mk (hb); have n2_ := Q9a.mk (hi); clear HK; clear HB; clear HI0; have HK := n0_; have HB := n1_; have HI0 := n2_; clear n0_ n1_ n2_; (try clear hb); (try clear hb2); (try clear hk); (try clear hi)))
  go_ret
  exact ⟨by first | rfl | (simp [eN, eS] <;> rfl) | (simp [*, eN, eS] <;> rfl), by repeat (first | (with_reducible first | exact HI0.out | apply IsS68.alloc | apply IsS68.drewN | apply IsS68.drew | apply IsS68.set_0 | apply IsS68.set_1 | apply IsS68.set_3) | exact HI0.out), by repeat (first | (with_reducible first | exact HB.out | apply bA | apply bN | apply bD | refine bS ?_ (IsS68.ge HI0.out)) | exact HB.out), by repeat (first | (with_reducible first | exact HK.out | apply KeepBut.set_ | apply keep_drewN | apply keep_drew | apply keep_alloc) | exact HK.out)⟩
 ·replace c4 := Bool.eq_false_iff.mpr c4
  subst c4
  have H1 : (some (0, t102, t103, t104)) = some (r1, r2, r3, r4) := by rw [if_neg (show ¬ (false = true) by decide)] at H; exact H
  clear H
  have H := H1
  clear H1
  simp only [Option.some.injEq, Prod.mk.injEq] at H
  obtain ⟨rfl, rfl, rfl, rfl⟩ := H
  go_enter Try.func44, Try.ntmps44
  go_wp2_with (first | ((with_reducible refine gate_callee (f := 40) rfl ?_); refine goesL_ (some 7) rfl rfl Try.func40 (by kernel_rfl) rfl #[.pointer (some ⟨g, 0, none⟩), .int .i64 a1] rfl (by (try simp only [List.map_toArray, List.map_cons, List.map_nil]); first | done | rfl | (simp only [List.length_drop, List.length_take]; rfl)) ?_; (with_reducible refine (field_GF_Is.calls g s0_0 s0_1 s0_2 s0_3 s0_4 s0_5 a1 false t102 t103 t104 w0 _ ?side1 ?side2 A3.out).mono ?_); (case side1 => repeat (first | (with_reducible first | exact HI0.out | apply IsS68.alloc | apply IsS68.drewN | apply IsS68.drew | apply IsS68.set_0 | apply IsS68.set_1 | apply IsS68.set_3) | exact HI0.out)); (case side2 => repeat (first | (with_reducible first | exact HB.out | apply bA | apply bN | apply bD | refine bS ?_ (IsS68.ge HI0.out)) | exact HB.out)); rintro e w6 ⟨rfl, hi, hb, hk⟩; refine ⟨_, rfl, ?_⟩; have n0_ := Q9a.mk (KeepBut.trans (by repeat (first | (with_reducible first | exact HK.out | apply KeepBut.set_ | apply keep_drewN | apply keep_drew | apply keep_alloc) | exact HK.out)) hk (.inl rfl)); have n1_ := Q9a.mk (hb); have n2_ := Q9a.mk (hi); clear HK; clear HB; clear HI0; have HK := n0_; have HB := n1_; have HI0 := n2_; clear n0_ n1_ n2_; (try clear hb); (try clear hb2); (try clear hk); (try clear hi)))
  go_ret
  exact ⟨by first | rfl | (simp [eN, eS] <;> rfl) | (simp [*, eN, eS] <;> rfl), by repeat (first | (with_reducible first | exact HI0.out | apply IsS68.alloc | apply IsS68.drewN | apply IsS68.drew | apply IsS68.set_0 | apply IsS68.set_1 | apply IsS68.set_3) | exact HI0.out), by repeat (first | (with_reducible first | exact HB.out | apply bA | apply bN | apply bD | refine bS ?_ (IsS68.ge HI0.out)) | exact HB.out), by repeat (first | (with_reducible first | exact HK.out | apply KeepBut.set_ | apply keep_drewN | apply keep_drew | apply keep_alloc) | exact HK.out)⟩
def field_GF_Order.f (s0_0 : Int) (s0_1 : Int) (s0_2 : List Int) (s0_3 : Int) (s0_4 : List Int) (s0_5 : List Int) : Option (Int × Int × Int × Int) := some (s0_3, s0_0, s0_1, s0_3)
set_option maxHeartbeats 8000000 in
set_option maxRecDepth 100000 in
theorem field_GF_Order.calls (g : Nat) (s0_0 : Int) (s0_1 : Int) (s0_2 : List Int) (s0_3 : Int) (s0_4 : List Int) (s0_5 : List Int) (r1 : Int) (r2 : Int) (r3 : Int) (r4 : Int) (w0 w : World) (hI : IsS68 w0 w g s0_0 s0_1 s0_2 s0_3 s0_4 s0_5) (hB : Below w0.heap.size w0 w) (h : field_GF_Order.f s0_0 s0_1 s0_2 s0_3 s0_4 s0_5 = some (r1, r2, r3, r4)) :
  Calls Try.prog 41 #[.pointer (some ⟨g, 0, none⟩)] w fun e w' => e = .returned (.int .i64 r1) ∧ IsS68 w0 w' g r2 r3 s0_2 r4 s0_4 s0_5 ∧ Below w0.heap.size w0 w' ∧ KeepBut w w' g none := by
 have HI0 := Q9a.mk hI
 have HK := Q9a.mk (KeepBut.refl w g none)
 have HL := Q9a.mk hB.size
 clear hI
 have HW0 := Q9a.mk hB.size
 have HB := Q9a.mk hB
 clear hB
 have H : (some (s0_3, s0_0, s0_1, s0_3)) = some (r1, r2, r3, r4) := h
 clear h
 simp only [Option.some.injEq, Prod.mk.injEq] at H
 obtain ⟨rfl, rfl, rfl, rfl⟩ := H
 obtain ⟨ASz2_2, cSz2_2, ASz2_4, cSz2_4, ASz2_5, cSz2_5, HGz2, hgz2, HSz2_2, HSz2_4, HSz2_5⟩ := HI0.out
 have hcz2_0 := cellS68_0 HGz2
 have hcz2_1 := cellS68_1 HGz2
 have hcz2_2 := cellS68_2 HGz2
 have hcz2_3 := cellS68_3 HGz2
 have hcz2_4 := cellS68_4 HGz2
 have hcz2_5 := cellS68_5 HGz2
 have hfz2_0 := kF HGz2 0
 have hfz2_1 := kF HGz2 1
 have hfz2_3 := kF HGz2 3
 clear HGz2 hgz2
 go_enter Try.func41, Try.ntmps41
 go_wp2
 go_ret
 exact ⟨by first | rfl | (simp [eN, eS] <;> rfl) | (simp [*, eN, eS] <;> rfl), by repeat (first | (with_reducible first | exact HI0.out | apply IsS68.alloc | apply IsS68.drewN | apply IsS68.drew | apply IsS68.set_0 | apply IsS68.set_1 | apply IsS68.set_3) | exact HI0.out), by repeat (first | (with_reducible first | exact HB.out | apply bA | apply bN | apply bD | refine bS ?_ (IsS68.ge HI0.out)) | exact HB.out), by repeat (first | (with_reducible first | exact HK.out | apply KeepBut.set_ | apply keep_drewN | apply keep_drew | apply keep_alloc) | exact HK.out)⟩
def field_GF_Add.l0 : Nat → Int → Int → Int → Int → Int → Int → List Int → Int → List Int → List Int → Option (Int × Int × Int × Int)
 | 0, _, _, _, _, _, _, _, _, _, _ => none
 | k + 1, x1, x2, x7, x8, x1000, x1001, x1002, x1003, x1004, x1005 => if x1 > 0 then (if x1000 = 0 then (none) else (field_GF_Add.l0 k (wrap64 (Int.tdiv x1 x1000)) (wrap64 (Int.tdiv x2 x1000)) (wrap64 (x7 + (wrap64 ((Int.tmod (wrap64 ((Int.tmod x1 x1000) + (Int.tmod x2 x1000))) x1000) * x8)))) (wrap64 (x8 * x1000)) x1000 x1001 x1002 x1003 x1004 x1005)) else (if x2 > 0 then (if x1000 = 0 then (none) else (field_GF_Add.l0 k (wrap64 (Int.tdiv x1 x1000)) (wrap64 (Int.tdiv x2 x1000)) (wrap64 (x7 + (wrap64 ((Int.tmod (wrap64 ((Int.tmod x1 x1000) + (Int.tmod x2 x1000))) x1000) * x8)))) (wrap64 (x8 * x1000)) x1000 x1001 x1002 x1003 x1004 x1005)) else (some (x7, x1000, x1001, x1003)))
def field_GF_Add.f (k : Nat) (s0_0 : Int) (s0_1 : Int) (s0_2 : List Int) (s0_3 : Int) (s0_4 : List Int) (s0_5 : List Int) (a1 : Int) (a2 : Int) : Option (Int × Int × Int × Int) := (field_GF_in.f s0_0 s0_1 s0_2 s0_3 s0_4 s0_5 a1).bind fun bt105 => ((field_GF_in.f bt105.2.1 bt105.2.2.1 s0_2 bt105.2.2.2 s0_4 s0_5 a2).bind fun bt109 => (if bt109.2.1 = 2 then (some (Go.bits .xor .i64 bt105.1 bt109.1, bt109.2.1, bt109.2.2.1, bt109.2.2.2)) else (field_GF_Add.l0 k bt105.1 bt109.1 0 1 bt109.2.1 bt109.2.2.1 s0_2 bt109.2.2.2 s0_4 s0_5)))
set_option maxHeartbeats 8000000 in
set_option maxRecDepth 100000 in
theorem field_GF_Add.calls (k : Nat) (g : Nat) (s0_0 : Int) (s0_1 : Int) (s0_2 : List Int) (s0_3 : Int) (s0_4 : List Int) (s0_5 : List Int) (a1 : Int) (a2 : Int) (r1 : Int) (r2 : Int) (r3 : Int) (r4 : Int) (w0 w : World) (hI : IsS68 w0 w g s0_0 s0_1 s0_2 s0_3 s0_4 s0_5) (hB : Below w0.heap.size w0 w) (h : field_GF_Add.f k s0_0 s0_1 s0_2 s0_3 s0_4 s0_5 a1 a2 = some (r1, r2, r3, r4)) :
  Calls Try.prog 56 #[.pointer (some ⟨g, 0, none⟩), .int .i64 a1, .int .i64 a2] w fun e w' => e = .returned (.int .i64 r1) ∧ IsS68 w0 w' g r2 r3 s0_2 r4 s0_4 s0_5 ∧ Below w0.heap.size w0 w' ∧ KeepBut w w' g none := by
 have HI0 := Q9a.mk hI
 have HK := Q9a.mk (KeepBut.refl w g none)
 have HL := Q9a.mk hB.size
 clear hI
 have HW0 := Q9a.mk hB.size
 have HB := Q9a.mk hB
 clear hB
 have H : ((field_GF_in.f s0_0 s0_1 s0_2 s0_3 s0_4 s0_5 a1).bind fun bt105 => ((field_GF_in.f bt105.2.1 bt105.2.2.1 s0_2 bt105.2.2.2 s0_4 s0_5 a2).bind fun bt109 => (if bt109.2.1 = 2 then (some (Go.bits .xor .i64 bt105.1 bt109.1, bt109.2.1, bt109.2.2.1, bt109.2.2.2)) else (field_GF_Add.l0 k bt105.1 bt109.1 0 1 bt109.2.1 bt109.2.2.1 s0_2 bt109.2.2.2 s0_4 s0_5)))) = some (r1, r2, r3, r4) := h
 clear h
 replace H := Option.bind_eq_some_iff.mp H
 obtain ⟨⟨t105, t106, t107, t108⟩, A40, H⟩ := H
 replace H : ((field_GF_in.f t106 t107 s0_2 t108 s0_4 s0_5 a2).bind fun bt109 => (if bt109.2.1 = 2 then (some (Go.bits .xor .i64 t105 bt109.1, bt109.2.1, bt109.2.2.1, bt109.2.2.2)) else (field_GF_Add.l0 k t105 bt109.1 0 1 bt109.2.1 bt109.2.2.1 s0_2 bt109.2.2.2 s0_4 s0_5))) = some (r1, r2, r3, r4) := H
 have A4 := Q9a.mk A40
 clear A40
 replace H := Option.bind_eq_some_iff.mp H
 obtain ⟨⟨t109, t110, t111, t112⟩, A50, H⟩ := H
 replace H : (if t110 = 2 then (some (Go.bits .xor .i64 t105 t109, t110, t111, t112)) else (field_GF_Add.l0 k t105 t109 0 1 t110 t111 s0_2 t112 s0_4 s0_5)) = some (r1, r2, r3, r4) := H
 have A5 := Q9a.mk A50
 clear A50
 by_cases c6 : t110 = 2
 ·rw [if_pos c6] at H
  have c6b0 : (t110 == 2) = true := beq_iff_eq.mpr c6
  have c6b1 : (t110 != 2) = false := bne_eq_false_iff_eq.mpr c6
  clear c6
  simp only [Option.some.injEq, Prod.mk.injEq] at H
  obtain ⟨rfl, rfl, rfl, rfl⟩ := H
  go_enter Try.func56, Try.ntmps56
  go_wp2_with (first | (go_at_call 44; (with_reducible refine (field_GF_in.calls g s0_0 s0_1 s0_2 s0_3 s0_4 s0_5 a1 t105 t106 t107 t108 w0 _ ?side1 ?side2 A4.out).mono ?_); (case side1 => repeat (first | (with_reducible first | exact HI0.out | apply IsS68.alloc | apply IsS68.drewN | apply IsS68.drew | apply IsS68.set_0 | apply IsS68.set_1 | apply IsS68.set_3) | exact HI0.out)); (case side2 => repeat (first | (with_reducible first | exact HB.out | apply bA | apply bN | apply bD | refine bS ?_ (IsS68.ge HI0.out)) | exact HB.out)); rintro e w7 ⟨rfl, hi, hb, hk⟩; have n0_ := Q9a.mk (KeepBut.trans (by repeat (first | (with_reducible first | exact HK.out | apply KeepBut.set_ | apply keep_drewN | apply keep_drew | apply keep_alloc) | exact HK.out)) hk (.inl rfl)); have n1_ := Q9a.mk (hb); have n2_ := Q9a.mk (hi); clear HK; clear HB; clear HI0; have HK := n0_; have HB := n1_; have HI0 := n2_; clear n0_ n1_ n2_; (try clear hb); (try clear hb2); (try clear hk); (try clear hi)) | (go_at_call 44; (with_reducible refine (field_GF_in.calls g t106 t107 s0_2 t108 s0_4 s0_5 a2 t109 t110 t111 t112 w0 _ ?side1 ?side2 A5.out).mono ?_); (case side1 => repeat (first | (with_reducible first | exact HI0.out | apply IsS68.alloc | apply IsS68.drewN | apply IsS68.drew | apply IsS68.set_0 | apply IsS68.set_1 | apply IsS68.set_3) | exact HI0.out)); (case side2 => repeat (first | (with_reducible first | exact HB.out | apply bA | apply bN | apply bD | refine bS ?_ (IsS68.ge HI0.out)) | exact HB.out)); rintro e w8 ⟨rfl, hi, hb, hk⟩; have n0_ := Q9a.mk (KeepBut.trans (by repeat (first | (with_reducible first | exact HK.out | apply KeepBut.set_ | apply keep_drewN | apply keep_drew | apply keep_alloc) | exact HK.out)) hk (.inl rfl)); have n1_ := Q9a.mk (hb); have n2_ := Q9a.mk (hi); clear HK; clear HB; clear HI0; have HK := n0_; have HB := n1_; have HI0 := n2_; clear n0_ n1_ n2_; (try clear hb); (try clear hb2); (try clear hk); (try clear hi); obtain ⟨ASz9_2, cSz9_2, ASz9_4, cSz9_4, ASz9_5, cSz9_5, HGz9, hgz9, HSz9_2, HSz9_4, HSz9_5⟩ := HI0.out; have hcz9_0 := cellS68_0 HGz9; have hcz9_1 := cellS68_1 HGz9; have hcz9_2 := cellS68_2 HGz9; have hcz9_3 := cellS68_3 HGz9; have hcz9_4 := cellS68_4 HGz9; have hcz9_5 := cellS68_5 HGz9; have hfz9_0 := kF HGz9 0; have hfz9_1 := kF HGz9 1; have hfz9_3 := kF HGz9 3; clear HGz9 hgz9))
  repeat (go_quiet (first | (go_at_call 44; (with_reducible refine (field_GF_in.calls g s0_0 s0_1 s0_2 s0_3 s0_4 s0_5 a1 t105 t106 t107 t108 w0 _ ?side1 ?side2 A4.out).mono ?_); (case side1 => repeat (first | (with_reducible first | exact HI0.out | apply IsS68.alloc | apply IsS68.drewN | apply IsS68.drew | apply IsS68.set_0 | apply IsS68.set_1 | apply IsS68.set_3) | exact HI0.out)); (case side2 => repeat (first | (with_reducible first | exact HB.out | apply bA | apply bN | apply bD | refine bS ?_ (IsS68.ge HI0.out)) | exact HB.out)); rintro e w7 ⟨rfl, hi, hb, hk⟩; have n0_ := Q9a.mk (KeepBut.trans (by repeat (first | (with_reducible first | exact HK.out | apply KeepBut.set_ | apply keep_drewN | apply keep_drew | apply keep_alloc) | exact HK.out)) hk (.inl rfl)); have n1_ := Q9a.mk (hb); have n2_ := Q9a.mk (hi); clear HK; clear HB; clear HI0; have HK := n0_; have HB := n1_; have HI0 := n2_; clear n0_ n1_ n2_; (try clear hb); (try clear hb2); (try clear hk); (try clear hi)) | (go_at_call 44; (with_reducible refine (field_GF_in.calls g t106 t107 s0_2 t108 s0_4 s0_5 a2 t109 t110 t111 t112 w0 _ ?side1 ?side2 A5.out).mono ?_); (case side1 => repeat (first | (with_reducible first | exact HI0.out | apply IsS68.alloc | apply IsS68.drewN | apply IsS68.drew | apply IsS68.set_0 | apply IsS68.set_1 | apply IsS68.set_3) | exact HI0.out)); (case side2 => repeat (first | (with_reducible first | exact HB.out | apply bA | apply bN | apply bD | refine bS ?_ (IsS68.ge HI0.out)) | exact HB.out)); rintro e w8 ⟨rfl, hi, hb, hk⟩; have n0_ := Q9a.mk (KeepBut.trans (by repeat (first | (with_reducible first | exact HK.out | apply KeepBut.set_ | apply keep_drewN | apply keep_drew | apply keep_alloc) | exact HK.out)) hk (.inl rfl)); have n1_ := Q9a.mk (hb); have n2_ := Q9a.mk (hi); clear HK; clear HB; clear HI0; have HK := n0_; have HB := n1_; have HI0 := n2_; clear n0_ n1_ n2_; (try clear hb); (try clear hb2); (try clear hk); (try clear hi); obtain ⟨ASz9_2, cSz9_2, ASz9_4, cSz9_4, ASz9_5, cSz9_5, HGz9, hgz9, HSz9_2, HSz9_4, HSz9_5⟩ := HI0.out; have hcz9_0 := cellS68_0 HGz9; have hcz9_1 := cellS68_1 HGz9; have hcz9_2 := cellS68_2 HGz9; have hcz9_3 := cellS68_3 HGz9; have hcz9_4 := cellS68_4 HGz9; have hcz9_5 := cellS68_5 HGz9; have hfz9_0 := kF HGz9 0; have hfz9_1 := kF HGz9 1; have hfz9_3 := kF HGz9 3; clear HGz9 hgz9)); try go_wp2_with (first | (go_at_call 44; (with_reducible refine (field_GF_in.calls g s0_0 s0_1 s0_2 s0_3 s0_4 s0_5 a1 t105 t106 t107 t108 w0 _ ?side1 ?side2 A4.out).mono ?_); (case side1 => repeat (first | (with_reducible first | exact HI0.out | apply IsS68.alloc | apply IsS68.drewN | apply IsS68.drew | apply IsS68.set_0 | apply IsS68.set_1 | apply IsS68.set_3) | exact HI0.out)); (case side2 => repeat (first | (with_reducible first | exact HB.out | apply bA | apply bN | apply bD | refine bS ?_ (IsS68.ge HI0.out)) | exact HB.out)); rintro e w7 ⟨rfl, hi, hb, hk⟩; have n0_ := Q9a.mk (KeepBut.trans (by repeat (first | (with_reducible first | exact HK.out | apply KeepBut.set_ | apply keep_drewN | apply keep_drew | apply keep_alloc) | exact HK.out)) hk (.inl rfl)); have n1_ := Q9a.mk (hb); have n2_ := Q9a.mk (hi); clear HK; clear HB; clear HI0; have HK := n0_; have HB := n1_; have HI0 := n2_; clear n0_ n1_ n2_; (try clear hb); (try clear hb2); (try clear hk); (try clear hi)) | (go_at_call 44; (with_reducible refine (field_GF_in.calls g t106 t107 s0_2 t108 s0_4 s0_5 a2 t109 t110 t111 t112 w0 _ ?side1 ?side2 A5.out).mono ?_); (case side1 => repeat (first | (with_reducible first | exact HI0.out | apply IsS68.alloc | apply IsS68.drewN | apply IsS68.drew | apply IsS68.set_0 | apply IsS68.set_1 | apply IsS68.set_3) | exact HI0.out)); (case side2 => repeat (first | (with_reducible first | exact HB.out | apply bA | apply bN | apply bD | refine bS ?_ (IsS68.ge HI0.out)) | exact HB.out)); rintro e w8 ⟨rfl, hi, hb, hk⟩; have n0_ := Q9a.mk (KeepBut.trans (by repeat (first | (with_reducible first | exact HK.out | apply KeepBut.set_ | apply keep_drewN | apply keep_drew | apply keep_alloc) | exact HK.out)) hk (.inl rfl)); have n1_ := Q9a.mk (hb); have n2_ := Q9a.mk (hi); clear HK; clear HB; clear HI0; have HK := n0_; have HB := n1_; have HI0 := n2_; clear n0_ n1_ n2_; (try clear hb); (try clear hb2); (try clear hk); (try clear hi); obtain ⟨ASz9_2, cSz9_2, ASz9_4, cSz9_4, ASz9_5, cSz9_5, HGz9, hgz9, HSz9_2, HSz9_4, HSz9_5⟩ := HI0.out; have hcz9_0 := cellS68_0 HGz9; have hcz9_1 := cellS68_1 HGz9; have hcz9_2 := cellS68_2 HGz9; have hcz9_3 := cellS68_3 HGz9; have hcz9_4 := cellS68_4 HGz9; have hcz9_5 := cellS68_5 HGz9; have hfz9_0 := kF HGz9 0; have hfz9_1 := kF HGz9 1; have hfz9_3 := kF HGz9 3; clear HGz9 hgz9)))
  go_ret
  exact ⟨by first | rfl | (simp [eN, eS] <;> rfl) | (simp [*, eN, eS] <;> rfl), by repeat (first | (with_reducible first | exact HI0.out | apply IsS68.alloc | apply IsS68.drewN | apply IsS68.drew | apply IsS68.set_0 | apply IsS68.set_1 | apply IsS68.set_3) | exact HI0.out), by repeat (first | (with_reducible first | exact HB.out | apply bA | apply bN | apply bD | refine bS ?_ (IsS68.ge HI0.out)) | exact HB.out), by repeat (first | (with_reducible first | exact HK.out | apply KeepBut.set_ | apply keep_drewN | apply keep_drew | apply keep_alloc) | exact HK.out)⟩
 ·rw [if_neg c6] at H
  have c6b0 : (t110 == 2) = false := beq_eq_false_iff_ne.mpr c6
  have c6b1 : (t110 != 2) = true := bne_iff_ne.mpr c6
  have H' := Q9a.mk H
  clear H
  go_enter Try.func56, Try.ntmps56
  go_wp2_with (first | (go_at_call 44; (with_reducible refine (field_GF_in.calls g s0_0 s0_1 s0_2 s0_3 s0_4 s0_5 a1 t105 t106 t107 t108 w0 _ ?side1 ?side2 A4.out).mono ?_); (case side1 => repeat (first | (with_reducible first | exact HI0.out | apply IsS68.alloc | apply IsS68.drewN | apply IsS68.drew | apply IsS68.set_0 | apply IsS68.set_1 | apply IsS68.set_3) | exact HI0.out)); (case side2 => repeat (first | (with_reducible first | exact HB.out | apply bA | apply bN | apply bD | refine bS ?_ (IsS68.ge HI0.out)) | exact HB.out)); rintro e w10 ⟨rfl, hi, hb, hk⟩; have n0_ := Q9a.mk (KeepBut.trans (by repeat (first | (with_reducible first | exact HK.out | apply KeepBut.set_ | apply keep_drewN | apply keep_drew | apply keep_alloc) | exact HK.out)) hk (.inl rfl)); have n1_ := Q9a.mk (hb); have n2_ := Q9a.mk (hi); clear HK; clear HB; clear HI0; have HK := n0_; have HB := n1_; have HI0 := n2_; clear n0_ n1_ n2_; (try clear hb); (try clear hb2); (try clear hk); (try clear hi)) | (go_at_call 44; (with_reducible refine (field_GF_in.calls g t106 t107 s0_2 t108 s0_4 s0_5 a2 t109 t110 t111 t112 w0 _ ?side1 ?side2 A5.out).mono ?_); (case side1 => repeat (first | (with_reducible first | exact HI0.out | apply IsS68.alloc | apply IsS68.drewN | apply IsS68.drew | apply IsS68.set_0 | apply IsS68.set_1 | apply IsS68.set_3) | exact HI0.out)); (case side2 => repeat (first | (with_reducible first | exact HB.out | apply bA | apply bN | apply bD | refine bS ?_ (IsS68.ge HI0.out)) | exact HB.out)); rintro e w11 ⟨rfl, hi, hb, hk⟩; have n0_ := Q9a.mk (KeepBut.trans (by repeat (first | (with_reducible first | exact HK.out | apply KeepBut.set_ | apply keep_drewN | apply keep_drew | apply keep_alloc) | exact HK.out)) hk (.inl rfl)); have n1_ := Q9a.mk (hb); have n2_ := Q9a.mk (hi); clear HK; clear HB; clear HI0; have HK := n0_; have HB := n1_; have HI0 := n2_; clear n0_ n1_ n2_; (try clear hb); (try clear hb2); (try clear hk); (try clear hi); obtain ⟨ASz12_2, cSz12_2, ASz12_4, cSz12_4, ASz12_5, cSz12_5, HGz12, hgz12, HSz12_2, HSz12_4, HSz12_5⟩ := HI0.out; have hcz12_0 := cellS68_0 HGz12; have hcz12_1 := cellS68_1 HGz12; have hcz12_2 := cellS68_2 HGz12; have hcz12_3 := cellS68_3 HGz12; have hcz12_4 := cellS68_4 HGz12; have hcz12_5 := cellS68_5 HGz12; have hfz12_0 := kF HGz12 0; have hfz12_1 := kF HGz12 1; have hfz12_3 := kF HGz12 3; clear HGz12 hgz12))
  repeat (go_quiet (first | (go_at_call 44; (with_reducible refine (field_GF_in.calls g s0_0 s0_1 s0_2 s0_3 s0_4 s0_5 a1 t105 t106 t107 t108 w0 _ ?side1 ?side2 A4.out).mono ?_); (case side1 => repeat (first | (with_reducible first | exact HI0.out | apply IsS68.alloc | apply IsS68.drewN | apply IsS68.drew | apply IsS68.set_0 | apply IsS68.set_1 | apply IsS68.set_3) | exact HI0.out)); (case side2 => repeat (first | (with_reducible first | exact HB.out | apply bA | apply bN | apply bD | refine bS ?_ (IsS68.ge HI0.out)) | exact HB.out)); rintro e w10 ⟨rfl, hi, hb, hk⟩; have n0_ := Q9a.mk (KeepBut.trans (by repeat (first | (with_reducible first | exact HK.out | apply KeepBut.set_ | apply keep_drewN | apply keep_drew | apply keep_alloc) | exact HK.out)) hk (.inl rfl)); have n1_ := Q9a.mk (hb); have n2_ := Q9a.mk (hi); clear HK; clear HB; clear HI0; have HK := n0_; have HB := n1_; have HI0 := n2_; clear n0_ n1_ n2_; (try clear hb); (try clear hb2); (try clear hk); (try clear hi)) | (go_at_call 44; (with_reducible refine (field_GF_in.calls g t106 t107 s0_2 t108 s0_4 s0_5 a2 t109 t110 t111 t112 w0 _ ?side1 ?side2 A5.out).mono ?_); (case side1 => repeat (first | (with_reducible first | exact HI0.out | apply IsS68.alloc | apply IsS68.drewN | apply IsS68.drew | apply IsS68.set_0 | apply IsS68.set_1 | apply IsS68.set_3) | exact HI0.out)); (case side2 => repeat (first | (with_reducible first | exact HB.out | apply bA | apply bN | apply bD | refine bS ?_ (IsS68.ge HI0.out)) | exact HB.out)); rintro e w11 ⟨rfl, hi, hb, hk⟩; have n0_ := Q9a.mk (KeepBut.trans (by repeat (first | (with_reducible first | exact HK.out | apply KeepBut.set_ | apply keep_drewN | apply keep_drew | apply keep_alloc) | exact HK.out)) hk (.inl rfl)); have n1_ := Q9a.mk (hb); have n2_ := Q9a.mk (hi); clear HK; clear HB; clear HI0; have HK := n0_; have HB := n1_; have HI0 := n2_; clear n0_ n1_ n2_; (try clear hb); (try clear hb2); (try clear hk); (try clear hi); obtain ⟨ASz12_2, cSz12_2, ASz12_4, cSz12_4, ASz12_5, cSz12_5, HGz12, hgz12, HSz12_2, HSz12_4, HSz12_5⟩ := HI0.out; have hcz12_0 := cellS68_0 HGz12; have hcz12_1 := cellS68_1 HGz12; have hcz12_2 := cellS68_2 HGz12; have hcz12_3 := cellS68_3 HGz12; have hcz12_4 := cellS68_4 HGz12; have hcz12_5 := cellS68_5 HGz12; have hfz12_0 := kF HGz12 0; have hfz12_1 := kF HGz12 1; have hfz12_3 := kF HGz12 3; clear HGz12 hgz12)); try go_wp2_with (first | (go_at_call 44; (with_reducible refine (field_GF_in.calls g s0_0 s0_1 s0_2 s0_3 s0_4 s0_5 a1 t105 t106 t107 t108 w0 _ ?side1 ?side2 A4.out).mono ?_); (case side1 => repeat (first | (with_reducible first | exact HI0.out | apply IsS68.alloc | apply IsS68.drewN | apply IsS68.drew | apply IsS68.set_0 | apply IsS68.set_1 | apply IsS68.set_3) | exact HI0.out)); (case side2 => repeat (first | (with_reducible first | exact HB.out | apply bA | apply bN | apply bD | refine bS ?_ (IsS68.ge HI0.out)) | exact HB.out)); rintro e w10 ⟨rfl, hi, hb, hk⟩; have n0_ := Q9a.mk (KeepBut.trans (by repeat (first | (with_reducible first | exact HK.out | apply KeepBut.set_ | apply keep_drewN | apply keep_drew | apply keep_alloc) | exact HK.out)) hk (.inl rfl)); have n1_ := Q9a.mk (hb); have n2_ := Q9a.mk (hi); clear HK; clear HB; clear HI0; have HK := n0_; have HB := n1_; have HI0 := n2_; clear n0_ n1_ n2_; (try clear hb); (try clear hb2); (try clear hk); (try clear hi)) | (go_at_call 44; (with_reducible refine (field_GF_in.calls g t106 t107 s0_2 t108 s0_4 s0_5 a2 t109 t110 t111 t112 w0 _ ?side1 ?side2 A5.out).mono ?_); (case side1 => repeat (first | (with_reducible first | exact HI0.out | apply IsS68.alloc | apply IsS68.drewN | apply IsS68.drew | apply IsS68.set_0 | apply IsS68.set_1 | apply IsS68.set_3) | exact HI0.out)); (case side2 => repeat (first | (with_reducible first | exact HB.out | apply bA | apply bN | apply bD | refine bS ?_ (IsS68.ge HI0.out)) | exact HB.out)); rintro e w11 ⟨rfl, hi, hb, hk⟩; have n0_ := Q9a.mk (KeepBut.trans (by repeat (first | (with_reducible first | exact HK.out | apply KeepBut.set_ | apply keep_drewN | apply keep_drew | apply keep_alloc) | exact HK.out)) hk (.inl rfl)); have n1_ := Q9a.mk (hb); have n2_ := Q9a.mk (hi); clear HK; clear HB; clear HI0; have HK := n0_; have HB := n1_; have HI0 := n2_; clear n0_ n1_ n2_; (try clear hb); (try clear hb2); (try clear hk); (try clear hi); obtain ⟨ASz12_2, cSz12_2, ASz12_4, cSz12_4, ASz12_5, cSz12_5, HGz12, hgz12, HSz12_2, HSz12_4, HSz12_5⟩ := HI0.out; have hcz12_0 := cellS68_0 HGz12; have hcz12_1 := cellS68_1 HGz12; have hcz12_2 := cellS68_2 HGz12; have hcz12_3 := cellS68_3 HGz12; have hcz12_4 := cellS68_4 HGz12; have hcz12_5 := cellS68_5 HGz12; have hfz12_0 := kF HGz12 0; have hfz12_1 := kF HGz12 1; have hfz12_3 := kF HGz12 3; clear HGz12 hgz12)))
  go_loopg [1, 2, 7, 8] k (fun kq v1 v2 v7 v8 w' => ∃ (x1_1 : Int) (x2_1 : Int) (x7_1 : Int) (x8_1 : Int), v1 = .int .i64 x1_1 ∧ v2 = .int .i64 x2_1 ∧ v7 = .int .i64 x7_1 ∧ v8 = .int .i64 x8_1 ∧ Q9a (field_GF_Add.l0 kq x1_1 x2_1 x7_1 x8_1 t110 t111 s0_2 t112 s0_4 s0_5 = some (r1, r2, r3, r4)) ∧ Q9a (kq ≤ k) ∧ Q9a (IsS68 w0 w' g t110 t111 s0_2 t112 s0_4 s0_5) ∧ Q9a (KeepBut w w' g none) ∧ Q9a (Below w0.heap.size w0 w'))
  case atStart => exact ⟨(t105), (t109), (0), (1), (by first | rfl | (simp; done) | (simp [*]; done)), (by first | rfl | (simp; done) | (simp [*]; done)), (by first | rfl | (simp; done) | (simp [*]; done)), (by first | rfl | (simp; done) | (simp [*]; done)), H', ⟨Nat.le_refl _⟩, ⟨by repeat (first | (with_reducible first | exact HI0.out | apply IsS68.alloc | apply IsS68.drewN | apply IsS68.drew | apply IsS68.set_0 | apply IsS68.set_1 | apply IsS68.set_3) | exact HI0.out)⟩, ⟨by repeat (first | (with_reducible first | exact HK.out | apply KeepBut.set_ | apply keep_drewN | apply keep_drew | apply keep_alloc) | exact HK.out)⟩, ⟨by repeat (first | (with_reducible first | exact HB.out | apply bA | apply bN | apply bD | refine bS ?_ (IsS68.ge HI0.out)) | exact HB.out)⟩⟩
  case round =>
   clear H'
   try clear p2
   try clear c5
   try clear c6
   try clear c6b0
   try clear c6b1
   try clear hcz12_0
   try clear hcz12_1
   try clear hcz12_2
   try clear hcz12_3
   try clear hcz12_4
   try clear hcz12_5
   try clear hcz9_0
   try clear hcz9_1
   try clear hcz9_2
   try clear hcz9_3
   try clear hcz9_4
   try clear hcz9_5
   try clear hfz12_0
   try clear hfz12_1
   try clear hfz12_3
   try clear hfz9_0
   try clear hfz9_1
   try clear hfz9_3
   obtain ⟨x1_1, x2_1, x7_1, x8_1, rfl, rfl, rfl, rfl, HA, HK1, HI0, HK, HB⟩ := hrel
   cases gk with
   | zero => exact absurd HA.out (by simp [field_GF_Add.l0])
   | succ k1 =>
    have H := HA.out
    clear HA
    simp only [field_GF_Add.l0] at H
    by_cases c13 : x1_1 > 0
    ·rw [if_pos c13] at H
     have c13b0 : decide (0 < x1_1) = true := decide_eq_true c13
     clear c13
     by_cases c14 : t110 = 0
     ·rw [if_pos c14] at H
      exact absurd H (by simp)
     ·rw [if_neg c14] at H
      have c14b0 : (t110 == 0) = false := beq_eq_false_iff_ne.mpr c14
      have c14b1 : (t110 != 0) = true := bne_iff_ne.mpr c14
      have H' := Q9a.mk H
      clear H
      obtain ⟨ASz15_2, cSz15_2, ASz15_4, cSz15_4, ASz15_5, cSz15_5, HGz15, hgz15, HSz15_2, HSz15_4, HSz15_5⟩ := HI0.out
      have hcz15_0 := cellS68_0 HGz15
      have hcz15_1 := cellS68_1 HGz15
      have hcz15_2 := cellS68_2 HGz15
      have hcz15_3 := cellS68_3 HGz15
      have hcz15_4 := cellS68_4 HGz15
      have hcz15_5 := cellS68_5 HGz15
      have hfz15_0 := kF HGz15 0
      have hfz15_1 := kF HGz15 1
      have hfz15_3 := kF HGz15 3
      clear HGz15 hgz15
      go_wp2
      repeat (go_quiet (fail); try go_wp2)
      go_roundg k1
      case measure => have := HK1.out; omega
      case rel => exact ⟨(wrap64 (Int.tdiv x1_1 t110)), (wrap64 (Int.tdiv x2_1 t110)), (wrap64 (x7_1 + (wrap64 ((Int.tmod (wrap64 ((Int.tmod x1_1 t110) + (Int.tmod x2_1 t110))) t110) * x8_1)))), (wrap64 (x8_1 * t110)), (by first | rfl | (simp; done) | (simp [*]; done)), (by first | rfl | (simp; done) | (simp [*]; done)), (by first | rfl | (simp; done) | (simp [*]; done)), (by first | rfl | (simp; done) | (simp [*]; done)), H', ⟨by have := HK1.out; omega⟩, ⟨by repeat (first | (with_reducible first | exact HI0.out | apply IsS68.alloc | apply IsS68.drewN | apply IsS68.drew | apply IsS68.set_0 | apply IsS68.set_1 | apply IsS68.set_3) | exact HI0.out)⟩, ⟨by repeat (first | (with_reducible first | exact HK.out | apply KeepBut.set_ | apply keep_drewN | apply keep_drew | apply keep_alloc) | exact HK.out)⟩, ⟨by repeat (first | (with_reducible first | exact HB.out | apply bA | apply bN | apply bD | refine bS ?_ (IsS68.ge HI0.out)) | exact HB.out)⟩⟩
    ·rw [if_neg c13] at H
     have c13b0 : decide (0 < x1_1) = false := decide_eq_false c13
     clear c13
     by_cases c16 : x2_1 > 0
     ·rw [if_pos c16] at H
      have c16b0 : decide (0 < x2_1) = true := decide_eq_true c16
      clear c16
      by_cases c17 : t110 = 0
      ·rw [if_pos c17] at H
       exact absurd H (by simp)
      ·rw [if_neg c17] at H
       have c17b0 : (t110 == 0) = false := beq_eq_false_iff_ne.mpr c17
       have c17b1 : (t110 != 0) = true := bne_iff_ne.mpr c17
       have H' := Q9a.mk H
       clear H
       obtain ⟨ASz18_2, cSz18_2, ASz18_4, cSz18_4, ASz18_5, cSz18_5, HGz18, hgz18, HSz18_2, HSz18_4, HSz18_5⟩ := HI0.out
       have hcz18_0 := cellS68_0 HGz18
       have hcz18_1 := cellS68_1 HGz18
       have hcz18_2 := cellS68_2 HGz18
       have hcz18_3 := cellS68_3 HGz18
       have hcz18_4 := cellS68_4 HGz18
       have hcz18_5 := cellS68_5 HGz18
       have hfz18_0 := kF HGz18 0
       have hfz18_1 := kF HGz18 1
       have hfz18_3 := kF HGz18 3
       clear HGz18 hgz18
       go_wp2
       repeat (go_quiet (fail); try go_wp2)
       go_roundg k1
       case measure => have := HK1.out; omega
       case rel => exact ⟨(wrap64 (Int.tdiv x1_1 t110)), (wrap64 (Int.tdiv x2_1 t110)), (wrap64 (x7_1 + (wrap64 ((Int.tmod (wrap64 ((Int.tmod x1_1 t110) + (Int.tmod x2_1 t110))) t110) * x8_1)))), (wrap64 (x8_1 * t110)), (by first | rfl | (simp; done) | (simp [*]; done)), (by first | rfl | (simp; done) | (simp [*]; done)), (by first | rfl | (simp; done) | (simp [*]; done)), (by first | rfl | (simp; done) | (simp [*]; done)), H', ⟨by have := HK1.out; omega⟩, ⟨by repeat (first | (with_reducible first | exact HI0.out | apply IsS68.alloc | apply IsS68.drewN | apply IsS68.drew | apply IsS68.set_0 | apply IsS68.set_1 | apply IsS68.set_3) | exact HI0.out)⟩, ⟨by repeat (first | (with_reducible first | exact HK.out | apply KeepBut.set_ | apply keep_drewN | apply keep_drew | apply keep_alloc) | exact HK.out)⟩, ⟨by repeat (first | (with_reducible first | exact HB.out | apply bA | apply bN | apply bD | refine bS ?_ (IsS68.ge HI0.out)) | exact HB.out)⟩⟩
     ·rw [if_neg c16] at H
      have c16b0 : decide (0 < x2_1) = false := decide_eq_false c16
      clear c16
      simp only [Option.some.injEq, Prod.mk.injEq] at H
      obtain ⟨rfl, rfl, rfl, rfl⟩ := H
      go_wp2
      repeat (go_quiet (fail); try go_wp2)
      go_ret
      exact ⟨by first | rfl | (simp [eN, eS] <;> rfl) | (simp [*, eN, eS] <;> rfl), by repeat (first | (with_reducible first | exact HI0.out | apply IsS68.alloc | apply IsS68.drewN | apply IsS68.drew | apply IsS68.set_0 | apply IsS68.set_1 | apply IsS68.set_3) | exact HI0.out), by repeat (first | (with_reducible first | exact HB.out | apply bA | apply bN | apply bD | refine bS ?_ (IsS68.ge HI0.out)) | exact HB.out), by repeat (first | (with_reducible first | exact HK.out | apply KeepBut.set_ | apply keep_drewN | apply keep_drew | apply keep_alloc) | exact HK.out)⟩
def field_GF_Mul.f (s0_0 : Int) (s0_1 : Int) (s0_2 : List Int) (s0_3 : Int) (s0_4 : List Int) (s0_5 : List Int) (a1 : Int) (a2 : Int) : Option (Int × Int × Int × Int) := (field_GF_in.f s0_0 s0_1 s0_2 s0_3 s0_4 s0_5 a1).bind fun bt113 => ((field_GF_in.f bt113.2.1 bt113.2.2.1 s0_2 bt113.2.2.2 s0_4 s0_5 a2).bind fun bt117 => (if bt113.1 = 0 then (some (0, bt117.2.1, bt117.2.2.1, bt117.2.2.2)) else (if bt117.1 = 0 then (some (0, bt117.2.1, bt117.2.2.1, bt117.2.2.2)) else (if 0 ≤ bt113.1 then (if bt113.1 < (s0_5.length : Int) then (if 0 ≤ bt117.1 then (if bt117.1 < (s0_5.length : Int) then (if (wrap64 (bt117.2.2.2 - 1)) = 0 then (none) else (if 0 ≤ (Int.tmod (wrap64 ((rd s0_5 bt113.1) + (rd s0_5 bt117.1))) (wrap64 (bt117.2.2.2 - 1))) then (if (Int.tmod (wrap64 ((rd s0_5 bt113.1) + (rd s0_5 bt117.1))) (wrap64 (bt117.2.2.2 - 1))) < (s0_4.length : Int) then (some (rd s0_4 (Int.tmod (wrap64 ((rd s0_5 bt113.1) + (rd s0_5 bt117.1))) (wrap64 (bt117.2.2.2 - 1))), bt117.2.1, bt117.2.2.1, bt117.2.2.2)) else (none)) else (none))) else (none)) else (none)) else (none)) else (none)))))
set_option maxHeartbeats 8000000 in
set_option maxRecDepth 100000 in
theorem field_GF_Mul.calls (g : Nat) (s0_0 : Int) (s0_1 : Int) (s0_2 : List Int) (s0_3 : Int) (s0_4 : List Int) (s0_5 : List Int) (a1 : Int) (a2 : Int) (r1 : Int) (r2 : Int) (r3 : Int) (r4 : Int) (w0 w : World) (hI : IsS68 w0 w g s0_0 s0_1 s0_2 s0_3 s0_4 s0_5) (hB : Below w0.heap.size w0 w) (h : field_GF_Mul.f s0_0 s0_1 s0_2 s0_3 s0_4 s0_5 a1 a2 = some (r1, r2, r3, r4)) :
  Calls Try.prog 48 #[.pointer (some ⟨g, 0, none⟩), .int .i64 a1, .int .i64 a2] w fun e w' => e = .returned (.int .i64 r1) ∧ IsS68 w0 w' g r2 r3 s0_2 r4 s0_4 s0_5 ∧ Below w0.heap.size w0 w' ∧ KeepBut w w' g none := by
 have HI0 := Q9a.mk hI
 have HK := Q9a.mk (KeepBut.refl w g none)
 have HL := Q9a.mk hB.size
 clear hI
 have HW0 := Q9a.mk hB.size
 have HB := Q9a.mk hB
 clear hB
 have H : ((field_GF_in.f s0_0 s0_1 s0_2 s0_3 s0_4 s0_5 a1).bind fun bt113 => ((field_GF_in.f bt113.2.1 bt113.2.2.1 s0_2 bt113.2.2.2 s0_4 s0_5 a2).bind fun bt117 => (if bt113.1 = 0 then (some (0, bt117.2.1, bt117.2.2.1, bt117.2.2.2)) else (if bt117.1 = 0 then (some (0, bt117.2.1, bt117.2.2.1, bt117.2.2.2)) else (if 0 ≤ bt113.1 then (if bt113.1 < (s0_5.length : Int) then (if 0 ≤ bt117.1 then (if bt117.1 < (s0_5.length : Int) then (if (wrap64 (bt117.2.2.2 - 1)) = 0 then (none) else (if 0 ≤ (Int.tmod (wrap64 ((rd s0_5 bt113.1) + (rd s0_5 bt117.1))) (wrap64 (bt117.2.2.2 - 1))) then (if (Int.tmod (wrap64 ((rd s0_5 bt113.1) + (rd s0_5 bt117.1))) (wrap64 (bt117.2.2.2 - 1))) < (s0_4.length : Int) then (some (rd s0_4 (Int.tmod (wrap64 ((rd s0_5 bt113.1) + (rd s0_5 bt117.1))) (wrap64 (bt117.2.2.2 - 1))), bt117.2.1, bt117.2.2.1, bt117.2.2.2)) else (none)) else (none))) else (none)) else (none)) else (none)) else (none)))))) = some (r1, r2, r3, r4) := h
 clear h
 replace H := Option.bind_eq_some_iff.mp H
 obtain ⟨⟨t113, t114, t115, t116⟩, A40, H⟩ := H
 replace H : ((field_GF_in.f t114 t115 s0_2 t116 s0_4 s0_5 a2).bind fun bt117 => (if t113 = 0 then (some (0, bt117.2.1, bt117.2.2.1, bt117.2.2.2)) else (if bt117.1 = 0 then (some (0, bt117.2.1, bt117.2.2.1, bt117.2.2.2)) else (if 0 ≤ t113 then (if t113 < (s0_5.length : Int) then (if 0 ≤ bt117.1 then (if bt117.1 < (s0_5.length : Int) then (if (wrap64 (bt117.2.2.2 - 1)) = 0 then (none) else (if 0 ≤ (Int.tmod (wrap64 ((rd s0_5 t113) + (rd s0_5 bt117.1))) (wrap64 (bt117.2.2.2 - 1))) then (if (Int.tmod (wrap64 ((rd s0_5 t113) + (rd s0_5 bt117.1))) (wrap64 (bt117.2.2.2 - 1))) < (s0_4.length : Int) then (some (rd s0_4 (Int.tmod (wrap64 ((rd s0_5 t113) + (rd s0_5 bt117.1))) (wrap64 (bt117.2.2.2 - 1))), bt117.2.1, bt117.2.2.1, bt117.2.2.2)) else (none)) else (none))) else (none)) else (none)) else (none)) else (none))))) = some (r1, r2, r3, r4) := H
 have A4 := Q9a.mk A40
 clear A40
 replace H := Option.bind_eq_some_iff.mp H
 obtain ⟨⟨t117, t118, t119, t120⟩, A50, H⟩ := H
 replace H : (if t113 = 0 then (some (0, t118, t119, t120)) else (if t117 = 0 then (some (0, t118, t119, t120)) else (if 0 ≤ t113 then (if t113 < (s0_5.length : Int) then (if 0 ≤ t117 then (if t117 < (s0_5.length : Int) then (if (wrap64 (t120 - 1)) = 0 then (none) else (if 0 ≤ (Int.tmod (wrap64 ((rd s0_5 t113) + (rd s0_5 t117))) (wrap64 (t120 - 1))) then (if (Int.tmod (wrap64 ((rd s0_5 t113) + (rd s0_5 t117))) (wrap64 (t120 - 1))) < (s0_4.length : Int) then (some (rd s0_4 (Int.tmod (wrap64 ((rd s0_5 t113) + (rd s0_5 t117))) (wrap64 (t120 - 1))), t118, t119, t120)) else (none)) else (none))) else (none)) else (none)) else (none)) else (none)))) = some (r1, r2, r3, r4) := H
 have A5 := Q9a.mk A50
 clear A50
 by_cases c6 : t113 = 0
 ·rw [if_pos c6] at H
  have c6b0 : (t113 == 0) = true := beq_iff_eq.mpr c6
  have c6b1 : (t113 != 0) = false := bne_eq_false_iff_eq.mpr c6
  clear c6
  simp only [Option.some.injEq, Prod.mk.injEq] at H
  obtain ⟨rfl, rfl, rfl, rfl⟩ := H
  go_enter Try.func48, Try.ntmps48
  go_wp2_with (first | (go_at_call 44; (with_reducible refine (field_GF_in.calls g s0_0 s0_1 s0_2 s0_3 s0_4 s0_5 a1 t113 t114 t115 t116 w0 _ ?side1 ?side2 A4.out).mono ?_); (case side1 => repeat (first | (with_reducible first | exact HI0.out | apply IsS68.alloc | apply IsS68.drewN | apply IsS68.drew | apply IsS68.set_0 | apply IsS68.set_1 | apply IsS68.set_3) | exact HI0.out)); (case side2 => repeat (first | (with_reducible first | exact HB.out | apply bA | apply bN | apply bD | refine bS ?_ (IsS68.ge HI0.out)) | exact HB.out)); rintro e w7 ⟨rfl, hi, hb, hk⟩; have n0_ := Q9a.mk (KeepBut.trans (by repeat (first | (with_reducible first | exact HK.out | apply KeepBut.set_ | apply keep_drewN | apply keep_drew | apply keep_alloc) | exact HK.out)) hk (.inl rfl)); have n1_ := Q9a.mk (hb); have n2_ := Q9a.mk (hi); clear HK; clear HB; clear HI0; have HK := n0_; have HB := n1_; have HI0 := n2_; clear n0_ n1_ n2_; (try clear hb); (try clear hb2); (try clear hk); (try clear hi)) | (go_at_call 44; (with_reducible refine (field_GF_in.calls g t114 t115 s0_2 t116 s0_4 s0_5 a2 t117 t118 t119 t120 w0 _ ?side1 ?side2 A5.out).mono ?_); (case side1 => repeat (first | (with_reducible first | exact HI0.out | apply IsS68.alloc | apply IsS68.drewN | apply IsS68.drew | apply IsS68.set_0 | apply IsS68.set_1 | apply IsS68.set_3) | exact HI0.out)); (case side2 => repeat (first | (with_reducible first | exact HB.out | apply bA | apply bN | apply bD | refine bS ?_ (IsS68.ge HI0.out)) | exact HB.out)); rintro e w8 ⟨rfl, hi, hb, hk⟩; have n0_ := Q9a.mk (KeepBut.trans (by repeat (first | (with_reducible first | exact HK.out | apply KeepBut.set_ | apply keep_drewN | apply keep_drew | apply keep_alloc) | exact HK.out)) hk (.inl rfl)); have n1_ := Q9a.mk (hb); have n2_ := Q9a.mk (hi); clear HK; clear HB; clear HI0; have HK := n0_; have HB := n1_; have HI0 := n2_; clear n0_ n1_ n2_; (try clear hb); (try clear hb2); (try clear hk); (try clear hi)))
  repeat (go_quiet (first | (go_at_call 44; (with_reducible refine (field_GF_in.calls g s0_0 s0_1 s0_2 s0_3 s0_4 s0_5 a1 t113 t114 t115 t116 w0 _ ?side1 ?side2 A4.out).mono ?_); (case side1 => repeat (first | (with_reducible first | exact HI0.out | apply IsS68.alloc | apply IsS68.drewN | apply IsS68.drew | apply IsS68.set_0 | apply IsS68.set_1 | apply IsS68.set_3) | exact HI0.out)); (case side2 => repeat (first | (with_reducible first | exact HB.out | apply bA | apply bN | apply bD | refine bS ?_ (IsS68.ge HI0.out)) | exact HB.out)); rintro e w7 ⟨rfl, hi, hb, hk⟩; have n0_ := Q9a.mk (KeepBut.trans (by repeat (first | (with_reducible first | exact HK.out | apply KeepBut.set_ | apply keep_drewN | apply keep_drew | apply keep_alloc) | exact HK.out)) hk (.inl rfl)); have n1_ := Q9a.mk (hb); have n2_ := Q9a.mk (hi); clear HK; clear HB; clear HI0; have HK := n0_; have HB := n1_; have HI0 := n2_; clear n0_ n1_ n2_; (try clear hb); (try clear hb2); (try clear hk); (try clear hi)) | (go_at_call 44; (with_reducible refine (field_GF_in.calls g t114 t115 s0_2 t116 s0_4 s0_5 a2 t117 t118 t119 t120 w0 _ ?side1 ?side2 A5.out).mono ?_); (case side1 => repeat (first | (with_reducible first | exact HI0.out | apply IsS68.alloc | apply IsS68.drewN | apply IsS68.drew | apply IsS68.set_0 | apply IsS68.set_1 | apply IsS68.set_3) | exact HI0.out)); (case side2 => repeat (first | (with_reducible first | exact HB.out | apply bA | apply bN | apply bD | refine bS ?_ (IsS68.ge HI0.out)) | exact HB.out)); rintro e w8 ⟨rfl, hi, hb, hk⟩; have n0_ := Q9a.mk (KeepBut.trans (by repeat (first | (with_reducible first | exact HK.out | apply KeepBut.set_ | apply keep_drewN | apply keep_drew | apply keep_alloc) | exact HK.out)) hk (.inl rfl)); have n1_ := Q9a.mk (hb); have n2_ := Q9a.mk (hi); clear HK; clear HB; clear HI0; have HK := n0_; have HB := n1_; have HI0 := n2_; clear n0_ n1_ n2_; (try clear hb); (try clear hb2); (try clear hk); (try clear hi))); try go_wp2_with (first | (go_at_call 44; (with_reducible refine (field_GF_in.calls g s0_0 s0_1 s0_2 s0_3 s0_4 s0_5 a1 t113 t114 t115 t116 w0 _ ?side1 ?side2 A4.out).mono ?_); (case side1 => repeat (first | (with_reducible first | exact HI0.out | apply IsS68.alloc | apply IsS68.drewN | apply IsS68.drew | apply IsS68.set_0 | apply IsS68.set_1 | apply IsS68.set_3) | exact HI0.out)); (case side2 => repeat (first | (with_reducible first | exact HB.out | apply bA | apply bN | apply bD | refine bS ?_ (IsS68.ge HI0.out)) | exact HB.out)); rintro e w7 ⟨rfl, hi, hb, hk⟩; have n0_ := Q9a.mk (KeepBut.trans (by repeat (first | (with_reducible first | exact HK.out | apply KeepBut.set_ | apply keep_drewN | apply keep_drew | apply keep_alloc) | exact HK.out)) hk (.inl rfl)); have n1_ := Q9a.mk (hb); have n2_ := Q9a.mk (hi); clear HK; clear HB; clear HI0; have HK := n0_; have HB := n1_; have HI0 := n2_; clear n0_ n1_ n2_; (try clear hb); (try clear hb2); (try clear hk); (try clear hi)) | (go_at_call 44; (with_reducible refine (field_GF_in.calls g t114 t115 s0_2 t116 s0_4 s0_5 a2 t117 t118 t119 t120 w0 _ ?side1 ?side2 A5.out).mono ?_); (case side1 => repeat (first | (with_reducible first | exact HI0.out | apply IsS68.alloc | apply IsS68.drewN | apply IsS68.drew | apply IsS68.set_0 | apply IsS68.set_1 | apply IsS68.set_3) | exact HI0.out)); (case side2 => repeat (first | (with_reducible first | exact HB.out | apply bA | apply bN | apply bD | refine bS ?_ (IsS68.ge HI0.out)) | exact HB.out)); rintro e w8 ⟨rfl, hi, hb, hk⟩; have n0_ := Q9a.mk (KeepBut.trans (by repeat (first | (with_reducible first | exact HK.out | apply KeepBut.set_ | apply keep_drewN | apply keep_drew | apply keep_alloc) | exact HK.out)) hk (.inl rfl)); have n1_ := Q9a.mk (hb); have n2_ := Q9a.mk (hi); clear HK; clear HB; clear HI0; have HK := n0_; have HB := n1_; have HI0 := n2_; clear n0_ n1_ n2_; (try clear hb); (try clear hb2); (try clear hk); (try clear hi))))
  go_ret
  exact ⟨by first | rfl | (simp [eN, eS] <;> rfl) | (simp [*, eN, eS] <;> rfl), by repeat (first | (with_reducible first | exact HI0.out | apply IsS68.alloc | apply IsS68.drewN | apply IsS68.drew | apply IsS68.set_0 | apply IsS68.set_1 | apply IsS68.set_3) | exact HI0.out), by repeat (first | (with_reducible first | exact HB.out | apply bA | apply bN | apply bD | refine bS ?_ (IsS68.ge HI0.out)) | exact HB.out), by repeat (first | (with_reducible first | exact HK.out | apply KeepBut.set_ | apply keep_drewN | apply keep_drew | apply keep_alloc) | exact HK.out)⟩
 ·rw [if_neg c6] at H
  have c6b0 : (t113 == 0) = false := beq_eq_false_iff_ne.mpr c6
  have c6b1 : (t113 != 0) = true := bne_iff_ne.mpr c6
  by_cases c9 : t117 = 0
  ·rw [if_pos c9] at H
   have c9b0 : (t117 == 0) = true := beq_iff_eq.mpr c9
   have c9b1 : (t117 != 0) = false := bne_eq_false_iff_eq.mpr c9
   clear c9
   simp only [Option.some.injEq, Prod.mk.injEq] at H
   obtain ⟨rfl, rfl, rfl, rfl⟩ := H
   go_enter Try.func48, Try.ntmps48
   go_wp2_with (first | (go_at_call 44; (with_reducible refine (field_GF_in.calls g s0_0 s0_1 s0_2 s0_3 s0_4 s0_5 a1 t113 t114 t115 t116 w0 _ ?side1 ?side2 A4.out).mono ?_); (case side1 => repeat (first | (with_reducible first | exact HI0.out | apply IsS68.alloc | apply IsS68.drewN | apply IsS68.drew | apply IsS68.set_0 | apply IsS68.set_1 | apply IsS68.set_3) | exact HI0.out)); (case side2 => repeat (first | (with_reducible first | exact HB.out | apply bA | apply bN | apply bD | refine bS ?_ (IsS68.ge HI0.out)) | exact HB.out)); rintro e w10 ⟨rfl, hi, hb, hk⟩; have n0_ := Q9a.mk (KeepBut.trans (by repeat (first | (with_reducible first | exact HK.out | apply KeepBut.set_ | apply keep_drewN | apply keep_drew | apply keep_alloc) | exact HK.out)) hk (.inl rfl)); have n1_ := Q9a.mk (hb); have n2_ := Q9a.mk (hi); clear HK; clear HB; clear HI0; have HK := n0_; have HB := n1_; have HI0 := n2_; clear n0_ n1_ n2_; (try clear hb); (try clear hb2); (try clear hk); (try clear hi)) | (go_at_call 44; (with_reducible refine (field_GF_in.calls g t114 t115 s0_2 t116 s0_4 s0_5 a2 t117 t118 t119 t120 w0 _ ?side1 ?side2 A5.out).mono ?_); (case side1 => repeat (first | (with_reducible first | exact HI0.out | apply IsS68.alloc | apply IsS68.drewN | apply IsS68.drew | apply IsS68.set_0 | apply IsS68.set_1 | apply IsS68.set_3) | exact HI0.out)); (case side2 => repeat (first | (with_reducible first | exact HB.out | apply bA | apply bN | apply bD | refine bS ?_ (IsS68.ge HI0.out)) | exact HB.out)); rintro e w11 ⟨rfl, hi, hb, hk⟩; have n0_ := Q9a.mk (KeepBut.trans (by repeat (first | (with_reducible first | exact HK.out | apply KeepBut.set_ | apply keep_drewN | apply keep_drew | apply keep_alloc) | exact HK.out)) hk (.inl rfl)); have n1_ := Q9a.mk (hb); have n2_ := Q9a.mk (hi); clear HK; clear HB; clear HI0; have HK := n0_; have HB := n1_; have HI0 := n2_; clear n0_ n1_ n2_; (try clear hb); (try clear hb2); (try clear hk); (try clear hi)))
   repeat (go_quiet (first | (go_at_call 44; (with_reducible refine (field_GF_in.calls g s0_0 s0_1 s0_2 s0_3 s0_4 s0_5 a1 t113 t114 t115 t116 w0 _ ?side1 ?side2 A4.out).mono ?_); (case side1 => repeat (first | (with_reducible first | exact HI0.out | apply IsS68.alloc | apply IsS68.drewN | apply IsS68.drew | apply IsS68.set_0 | apply IsS68.set_1 | apply IsS68.set_3) | exact HI0.out)); (case side2 => repeat (first | (with_reducible first | exact HB.out | apply bA | apply bN | apply bD | refine bS ?_ (IsS68.ge HI0.out)) | exact HB.out)); rintro e w10 ⟨rfl, hi, hb, hk⟩; have n0_ := Q9a.mk (KeepBut.trans (by repeat (first | (with_reducible first | exact HK.out | apply KeepBut.set_ | apply keep_drewN | apply keep_drew | apply keep_alloc) | exact HK.out)) hk (.inl rfl)); have n1_ := Q9a.mk (hb); have n2_ := Q9a.mk (hi); clear HK; clear HB; clear HI0; have HK := n0_; have HB := n1_; have HI0 := n2_; clear n0_ n1_ n2_; (try clear hb); (try clear hb2); (try clear hk); (try clear hi)) | (go_at_call 44; (with_reducible refine (field_GF_in.calls g t114 t115 s0_2 t116 s0_4 s0_5 a2 t117 t118 t119 t120 w0 _ ?side1 ?side2 A5.out).mono ?_); (case side1 => repeat (first | (with_reducible first | exact HI0.out | apply IsS68.alloc | apply IsS68.drewN | apply IsS68.drew | apply IsS68.set_0 | apply IsS68.set_1 | apply IsS68.set_3) | exact HI0.out)); (case side2 => repeat (first | (with_reducible first | exact HB.out | apply bA | apply bN | apply bD | refine bS ?_ (IsS68.ge HI0.out)) | exact HB.out)); rintro e w11 ⟨rfl, hi, hb, hk⟩; have n0_ := Q9a.mk (KeepBut.trans (by repeat (first | (with_reducible first | exact HK.out | apply KeepBut.set_ | apply keep_drewN | apply keep_drew | apply keep_alloc) | exact HK.out)) hk (.inl rfl)); have n1_ := Q9a.mk (hb); have n2_ := Q9a.mk (hi); clear HK; clear HB; clear HI0; have HK := n0_; have HB := n1_; have HI0 := n2_; clear n0_ n1_ n2_; (try clear hb); (try clear hb2); (try clear hk); (try clear hi))); try go_wp2_with (first | (go_at_call 44; (with_reducible refine (field_GF_in.calls g s0_0 s0_1 s0_2 s0_3 s0_4 s0_5 a1 t113 t114 t115 t116 w0 _ ?side1 ?side2 A4.out).mono ?_); (case side1 => repeat (first | (with_reducible first | exact HI0.out | apply IsS68.alloc | apply IsS68.drewN | apply IsS68.drew | apply IsS68.set_0 | apply IsS68.set_1 | apply IsS68.set_3) | exact HI0.out)); (case side2 => repeat (first | (with_reducible first | exact HB.out | apply bA | apply bN | apply bD | refine bS ?_ (IsS68.ge HI0.out)) | exact HB.out)); rintro e w10 ⟨rfl, hi, hb, hk⟩; have n0_ := Q9a.mk (KeepBut.trans (by repeat (first | (with_reducible first | exact HK.out | apply KeepBut.set_ | apply keep_drewN | apply keep_drew | apply keep_alloc) | exact HK.out)) hk (.inl rfl)); have n1_ := Q9a.mk (hb); have n2_ := Q9a.mk (hi); clear HK; clear HB; clear HI0; have HK := n0_; have HB := n1_; have HI0 := n2_; clear n0_ n1_ n2_; (try clear hb); (try clear hb2); (try clear hk); (try clear hi)) | (go_at_call 44; (with_reducible refine (field_GF_in.calls g t114 t115 s0_2 t116 s0_4 s0_5 a2 t117 t118 t119 t120 w0 _ ?side1 ?side2 A5.out).mono ?_); (case side1 => repeat (first | (with_reducible first | exact HI0.out | apply IsS68.alloc | apply IsS68.drewN | apply IsS68.drew | apply IsS68.set_0 | apply IsS68.set_1 | apply IsS68.set_3) | exact HI0.out)); (case side2 => repeat (first | (with_reducible first | exact HB.out | apply bA | apply bN | apply bD | refine bS ?_ (IsS68.ge HI0.out)) | exact HB.out)); rintro e w11 ⟨rfl, hi, hb, hk⟩; have n0_ := Q9a.mk (KeepBut.trans (by repeat (first | (with_reducible first | exact HK.out | apply KeepBut.set_ | apply keep_drewN | apply keep_drew | apply keep_alloc) | exact HK.out)) hk (.inl rfl)); have n1_ := Q9a.mk (hb); have n2_ := Q9a.mk (hi); clear HK; clear HB; clear HI0; have HK := n0_; have HB := n1_; have HI0 := n2_; clear n0_ n1_ n2_; (try clear hb); (try clear hb2); (try clear hk); (try clear hi))))
   go_ret
   exact ⟨by first | rfl | (simp [eN, eS] <;> rfl) | (simp [*, eN, eS] <;> rfl), by repeat (first | (with_reducible first | exact HI0.out | apply IsS68.alloc | apply IsS68.drewN | apply IsS68.drew | apply IsS68.set_0 | apply IsS68.set_1 | apply IsS68.set_3) | exact HI0.out), by repeat (first | (with_reducible first | exact HB.out | apply bA | apply bN | apply bD | refine bS ?_ (IsS68.ge HI0.out)) | exact HB.out), by repeat (first | (with_reducible first | exact HK.out | apply KeepBut.set_ | apply keep_drewN | apply keep_drew | apply keep_alloc) | exact HK.out)⟩
  ·rw [if_neg c9] at H
   have c9b0 : (t117 == 0) = false := beq_eq_false_iff_ne.mpr c9
   have c9b1 : (t117 != 0) = true := bne_iff_ne.mpr c9
   by_cases c12 : 0 ≤ t113
   ·rw [if_pos c12] at H
    have c12b0 : decide (0 ≤ t113) = true := decide_eq_true c12
    clear c12
    by_cases c13 : t113 < (s0_5.length : Int)
    ·rw [if_pos c13] at H
     have c13b0 : decide (t113 < (s0_5.length : Int)) = true := decide_eq_true c13
     clear c13
     by_cases c14 : 0 ≤ t117
     ·rw [if_pos c14] at H
      have c14b0 : decide (0 ≤ t117) = true := decide_eq_true c14
      clear c14
      by_cases c15 : t117 < (s0_5.length : Int)
      ·rw [if_pos c15] at H
       have c15b0 : decide (t117 < (s0_5.length : Int)) = true := decide_eq_true c15
       clear c15
       by_cases c16 : (wrap64 (t120 - 1)) = 0
       ·rw [if_pos c16] at H
        exact absurd H (by simp)
       ·rw [if_neg c16] at H
        have c16b0 : ((wrap64 (t120 - 1)) == 0) = false := beq_eq_false_iff_ne.mpr c16
        have c16b1 : ((wrap64 (t120 - 1)) != 0) = true := bne_iff_ne.mpr c16
        obtain ⟨ji17, hji17⟩ : ∃ j_ : Int, (Int.tmod (wrap64 ((rd s0_5 t113) + (rd s0_5 t117))) (wrap64 (t120 - 1))) = j_ := ⟨_, rfl⟩
        replace H : (if 0 ≤ (ji17) then (if (ji17) < (s0_4.length : Int) then (some (rd s0_4 (ji17), t118, t119, t120)) else (none)) else (none)) = some (r1, r2, r3, r4) := by first | (rw [hji17] at H; exact H) | (simp only [hji17] at H ⊢; exact H)
        (try rw [hji17] at A4)
        (try rw [hji17] at A5)
        by_cases c18 : 0 ≤ (ji17)
        ·rw [if_pos c18] at H
         have c18b0 : decide (0 ≤ (ji17)) = true := decide_eq_true c18
         clear c18
         by_cases c19 : (ji17) < (s0_4.length : Int)
         ·rw [if_pos c19] at H
          have c19b0 : decide ((ji17) < (s0_4.length : Int)) = true := decide_eq_true c19
          clear c19
          simp only [Option.some.injEq, Prod.mk.injEq] at H
          obtain ⟨rfl, rfl, rfl, rfl⟩ := H
          go_enter Try.func48, Try.ntmps48
          go_wp2_with (first | (go_at_call 44; (with_reducible refine (field_GF_in.calls g s0_0 s0_1 s0_2 s0_3 s0_4 s0_5 a1 t113 t114 t115 t116 w0 _ ?side1 ?side2 A4.out).mono ?_); (case side1 => repeat (first | (with_reducible first | exact HI0.out | apply IsS68.alloc | apply IsS68.drewN | apply IsS68.drew | apply IsS68.set_0 | apply IsS68.set_1 | apply IsS68.set_3) | exact HI0.out)); (case side2 => repeat (first | (with_reducible first | exact HB.out | apply bA | apply bN | apply bD | refine bS ?_ (IsS68.ge HI0.out)) | exact HB.out)); rintro e w20 ⟨rfl, hi, hb, hk⟩; have n0_ := Q9a.mk (KeepBut.trans (by repeat (first | (with_reducible first | exact HK.out | apply KeepBut.set_ | apply keep_drewN | apply keep_drew | apply keep_alloc) | exact HK.out)) hk (.inl rfl)); have n1_ := Q9a.mk (hb); have n2_ := Q9a.mk (hi); clear HK; clear HB; clear HI0; have HK := n0_; have HB := n1_; have HI0 := n2_; clear n0_ n1_ n2_; (try clear hb); (try clear hb2); (try clear hk); (try clear hi)) | (go_at_call 44; (with_reducible refine (field_GF_in.calls g t114 t115 s0_2 t116 s0_4 s0_5 a2 t117 t118 t119 t120 w0 _ ?side1 ?side2 A5.out).mono ?_); (case side1 => repeat (first | (with_reducible first | exact HI0.out | apply IsS68.alloc | apply IsS68.drewN | apply IsS68.drew | apply IsS68.set_0 | apply IsS68.set_1 | apply IsS68.set_3) | exact HI0.out)); (case side2 => repeat (first | (with_reducible first | exact HB.out | apply bA | apply bN | apply bD | refine bS ?_ (IsS68.ge HI0.out)) | exact HB.out)); rintro e w21 ⟨rfl, hi, hb, hk⟩; have n0_ := Q9a.mk (KeepBut.trans (by repeat (first | (with_reducible first | exact HK.out | apply KeepBut.set_ | apply keep_drewN | apply keep_drew | apply keep_alloc) | exact HK.out)) hk (.inl rfl)); have n1_ := Q9a.mk (hb); have n2_ := Q9a.mk (hi); clear HK; clear HB; clear HI0; have HK := n0_; have HB := n1_; have HI0 := n2_; clear n0_ n1_ n2_; (try clear hb); (try clear hb2); (try clear hk); (try clear hi); obtain ⟨ASz22_2, cSz22_2, ASz22_4, cSz22_4, ASz22_5, cSz22_5, HGz22, hgz22, HSz22_2, HSz22_4, HSz22_5⟩ := HI0.out; have hcz22_0 := cellS68_0 HGz22; have hcz22_1 := cellS68_1 HGz22; have hcz22_2 := cellS68_2 HGz22; have hcz22_3 := cellS68_3 HGz22; have hcz22_4 := cellS68_4 HGz22; have hcz22_5 := cellS68_5 HGz22; have hfz22_0 := kF HGz22 0; have hfz22_1 := kF HGz22 1; have hfz22_3 := kF HGz22 3; clear HGz22 hgz22; have p121 : 0 ≤ (t113 : Int) := of_decide_eq_true (by first | (with_reducible assumption) | assumption); have q121 : t113 < (s0_5.length : Int) := of_decide_eq_true (by first | (with_reducible assumption) | assumption); obtain ⟨ad121, e121, hx121_0⟩ := Kd.at_int HSz22_5 t113 p121 q121; cases e121; replace hx121_0 := pw_cell_below HB.out hx121_0; replace p121 := eq_true p121; replace q121 := eq_true q121; have p122 : 0 ≤ (t117 : Int) := of_decide_eq_true (by first | (with_reducible assumption) | assumption); have q122 : t117 < (s0_5.length : Int) := of_decide_eq_true (by first | (with_reducible assumption) | assumption); obtain ⟨ad122, e122, hx122_0⟩ := Kd.at_int HSz22_5 t117 p122 q122; obtain rfl : ad121 = ad122 := (by injection e122); replace hx122_0 := pw_cell_below HB.out hx122_0; replace p122 := eq_true p122; replace q122 := eq_true q122; have p123 : 0 ≤ ((ji17) : Int) := of_decide_eq_true (by first | (with_reducible assumption) | assumption); have q123 : (ji17) < (s0_4.length : Int) := of_decide_eq_true (by first | (with_reducible assumption) | assumption); obtain ⟨ad123, e123, hx123_0⟩ := Kd.at_int HSz22_4 (ji17) p123 q123; cases e123; replace hx123_0 := pw_cell_below HB.out hx123_0; replace p123 := eq_true p123; replace q123 := eq_true q123))
          repeat (go_quiet (first | (go_at_call 44; (with_reducible refine (field_GF_in.calls g s0_0 s0_1 s0_2 s0_3 s0_4 s0_5 a1 t113 t114 t115 t116 w0 _ ?side1 ?side2 A4.out).mono ?_); (case side1 => repeat (first | (with_reducible first | exact HI0.out | apply IsS68.alloc | apply IsS68.drewN | apply IsS68.drew | apply IsS68.set_0 | apply IsS68.set_1 | apply IsS68.set_3) | exact HI0.out)); (case side2 => repeat (first | (with_reducible first | exact HB.out | apply bA | apply bN | apply bD | refine bS ?_ (IsS68.ge HI0.out)) | exact HB.out)); rintro e w20 ⟨rfl, hi, hb, hk⟩; have n0_ := Q9a.mk (KeepBut.trans (by repeat (first | (with_reducible first | exact HK.out | apply KeepBut.set_ | apply keep_drewN | apply keep_drew | apply keep_alloc) | exact HK.out)) hk (.inl rfl)); have n1_ := Q9a.mk (hb); have n2_ := Q9a.mk (hi); clear HK; clear HB; clear HI0; have HK := n0_; have HB := n1_; have HI0 := n2_; clear n0_ n1_ n2_; (try clear hb); (try clear hb2); (try clear hk); (try clear hi)) | (go_at_call 44; (with_reducible refine (field_GF_in.calls g t114 t115 s0_2 t116 s0_4 s0_5 a2 t117 t118 t119 t120 w0 _ ?side1 ?side2 A5.out).mono ?_); (case side1 => repeat (first | (with_reducible first | exact HI0.out | apply IsS68.alloc | apply IsS68.drewN | apply IsS68.drew | apply IsS68.set_0 | apply IsS68.set_1 | apply IsS68.set_3) | exact HI0.out)); (case side2 => repeat (first | (with_reducible first | exact HB.out | apply bA | apply bN | apply bD | refine bS ?_ (IsS68.ge HI0.out)) | exact HB.out)); rintro e w21 ⟨rfl, hi, hb, hk⟩; have n0_ := Q9a.mk (KeepBut.trans (by repeat (first | (with_reducible first | exact HK.out | apply KeepBut.set_ | apply keep_drewN | apply keep_drew | apply keep_alloc) | exact HK.out)) hk (.inl rfl)); have n1_ := Q9a.mk (hb); have n2_ := Q9a.mk (hi); clear HK; clear HB; clear HI0; have HK := n0_; have HB := n1_; have HI0 := n2_; clear n0_ n1_ n2_; (try clear hb); (try clear hb2); (try clear hk); (try clear hi); obtain ⟨ASz22_2, cSz22_2, ASz22_4, cSz22_4, ASz22_5, cSz22_5, HGz22, hgz22, HSz22_2, HSz22_4, HSz22_5⟩ := HI0.out; have hcz22_0 := cellS68_0 HGz22; have hcz22_1 := cellS68_1 HGz22; have hcz22_2 := cellS68_2 HGz22; have hcz22_3 := cellS68_3 HGz22; have hcz22_4 := cellS68_4 HGz22; have hcz22_5 := cellS68_5 HGz22; have hfz22_0 := kF HGz22 0; have hfz22_1 := kF HGz22 1; have hfz22_3 := kF HGz22 3; clear HGz22 hgz22; have p121 : 0 ≤ (t113 : Int) := of_decide_eq_true (by first | (with_reducible assumption) | assumption); have q121 : t113 < (s0_5.length : Int) := of_decide_eq_true (by first | (with_reducible assumption) | assumption); obtain ⟨ad121, e121, hx121_0⟩ := Kd.at_int HSz22_5 t113 p121 q121; cases e121; replace hx121_0 := pw_cell_below HB.out hx121_0; replace p121 := eq_true p121; replace q121 := eq_true q121; have p122 : 0 ≤ (t117 : Int) := of_decide_eq_true (by first | (with_reducible assumption) | assumption); have q122 : t117 < (s0_5.length : Int) := of_decide_eq_true (by first | (with_reducible assumption) | assumption); obtain ⟨ad122, e122, hx122_0⟩ := Kd.at_int HSz22_5 t117 p122 q122; obtain rfl : ad121 = ad122 := (by injection e122); replace hx122_0 := pw_cell_below HB.out hx122_0; replace p122 := eq_true p122; replace q122 := eq_true q122; have p123 : 0 ≤ ((ji17) : Int) := of_decide_eq_true (by first | (with_reducible assumption) | assumption); have q123 : (ji17) < (s0_4.length : Int) := of_decide_eq_true (by first | (with_reducible assumption) | assumption); obtain ⟨ad123, e123, hx123_0⟩ := Kd.at_int HSz22_4 (ji17) p123 q123; cases e123; replace hx123_0 := pw_cell_below HB.out hx123_0; replace p123 := eq_true p123; replace q123 := eq_true q123)); try go_wp2_with (first | (go_at_call 44; (with_reducible refine (field_GF_in.calls g s0_0 s0_1 s0_2 s0_3 s0_4 s0_5 a1 t113 t114 t115 t116 w0 _ ?side1 ?side2 A4.out).mono ?_); (case side1 => repeat (first | (with_reducible first | exact HI0.out | apply IsS68.alloc | apply IsS68.drewN | apply IsS68.drew | apply IsS68.set_0 | apply IsS68.set_1 | apply IsS68.set_3) | exact HI0.out)); (case side2 => repeat (first | (with_reducible first | exact HB.out | apply bA | apply bN | apply bD | refine bS ?_ (IsS68.ge HI0.out)) | exact HB.out)); rintro e w20 ⟨rfl, hi, hb, hk⟩; have n0_ := Q9a.mk (KeepBut.trans (by repeat (first | (with_reducible first | exact HK.out | apply KeepBut.set_ | apply keep_drewN | apply keep_drew | apply keep_alloc) | exact HK.out)) hk (.inl rfl)); have n1_ := Q9a.mk (hb); have n2_ := Q9a.mk (hi); clear HK; clear HB; clear HI0; have HK := n0_; have HB := n1_; have HI0 := n2_; clear n0_ n1_ n2_; (try clear hb); (try clear hb2); (try clear hk); (try clear hi)) | (go_at_call 44; (with_reducible refine (field_GF_in.calls g t114 t115 s0_2 t116 s0_4 s0_5 a2 t117 t118 t119 t120 w0 _ ?side1 ?side2 A5.out).mono ?_); (case side1 => repeat (first | (with_reducible first | exact HI0.out | apply IsS68.alloc | apply IsS68.drewN | apply IsS68.drew | apply IsS68.set_0 | apply IsS68.set_1 | apply IsS68.set_3) | exact HI0.out)); (case side2 => repeat (first | (with_reducible first | exact HB.out | apply bA | apply bN | apply bD | refine bS ?_ (IsS68.ge HI0.out)) | exact HB.out)); rintro e w21 ⟨rfl, hi, hb, hk⟩; have n0_ := Q9a.mk (KeepBut.trans (by repeat (first | (with_reducible first | exact HK.out | apply KeepBut.set_ | apply keep_drewN | apply keep_drew | apply keep_alloc) | exact HK.out)) hk (.inl rfl)); have n1_ := Q9a.mk (hb); have n2_ := Q9a.mk (hi); clear HK; clear HB; clear HI0; have HK := n0_; have HB := n1_; have HI0 := n2_; clear n0_ n1_ n2_; (try clear hb); (try clear hb2); (try clear hk); (try clear hi); obtain ⟨ASz22_2, cSz22_2, ASz22_4, cSz22_4, ASz22_5, cSz22_5, HGz22, hgz22, HSz22_2, HSz22_4, HSz22_5⟩ := HI0.out; have hcz22_0 := cellS68_0 HGz22; have hcz22_1 := cellS68_1 HGz22; have hcz22_2 := cellS68_2 HGz22; have hcz22_3 := cellS68_3 HGz22; have hcz22_4 := cellS68_4 HGz22; have hcz22_5 := cellS68_5 HGz22; have hfz22_0 := kF HGz22 0; have hfz22_1 := kF HGz22 1; have hfz22_3 := kF HGz22 3; clear HGz22 hgz22; have p121 : 0 ≤ (t113 : Int) := of_decide_eq_true (by first | (with_reducible assumption) | assumption); have q121 : t113 < (s0_5.length : Int) := of_decide_eq_true (by first | (with_reducible assumption) | assumption); obtain ⟨ad121, e121, hx121_0⟩ := Kd.at_int HSz22_5 t113 p121 q121; cases e121; replace hx121_0 := pw_cell_below HB.out hx121_0; replace p121 := eq_true p121; replace q121 := eq_true q121; have p122 : 0 ≤ (t117 : Int) := of_decide_eq_true (by first | (with_reducible assumption) | assumption); have q122 : t117 < (s0_5.length : Int) := of_decide_eq_true (by first | (with_reducible assumption) | assumption); obtain ⟨ad122, e122, hx122_0⟩ := Kd.at_int HSz22_5 t117 p122 q122; obtain rfl : ad121 = ad122 := (by injection e122); replace hx122_0 := pw_cell_below HB.out hx122_0; replace p122 := eq_true p122; replace q122 := eq_true q122; have p123 : 0 ≤ ((ji17) : Int) := of_decide_eq_true (by first | (with_reducible assumption) | assumption); have q123 : (ji17) < (s0_4.length : Int) := of_decide_eq_true (by first | (with_reducible assumption) | assumption); obtain ⟨ad123, e123, hx123_0⟩ := Kd.at_int HSz22_4 (ji17) p123 q123; cases e123; replace hx123_0 := pw_cell_below HB.out hx123_0; replace p123 := eq_true p123; replace q123 := eq_true q123)))
          go_ret
          exact ⟨by first | rfl | (simp [eN, eS] <;> rfl) | (simp only [← hji17]; first | rfl | (simp [eN, eS] <;> rfl)) | (simp [*, eN, eS] <;> rfl), by repeat (first | (with_reducible first | exact HI0.out | apply IsS68.alloc | apply IsS68.drewN | apply IsS68.drew | apply IsS68.set_0 | apply IsS68.set_1 | apply IsS68.set_3) | exact HI0.out), by repeat (first | (with_reducible first | exact HB.out | apply bA | apply bN | apply bD | refine bS ?_ (IsS68.ge HI0.out)) | exact HB.out), by repeat (first | (with_reducible first | exact HK.out | apply KeepBut.set_ | apply keep_drewN | apply keep_drew | apply keep_alloc) | exact HK.out)⟩
         ·rw [if_neg c19] at H
          exact absurd H (by simp)
        ·rw [if_neg c18] at H
         exact absurd H (by simp)
      ·rw [if_neg c15] at H
       exact absurd H (by simp)
     ·rw [if_neg c14] at H
      exact absurd H (by simp)
    ·rw [if_neg c13] at H
     exact absurd H (by simp)
   ·rw [if_neg c12] at H
    exact absurd H (by simp)
def field_GF_Pow.j0 : Nat → Int → Int → Bool → Int → Int → List Int → Int → List Int → List Int → Option (Int × Int × Int × Int × Int)
 | 0, _, _, _, _, _, _, _, _, _ => none
 | k + 1, x1, x2, x15, x1000, x1001, x1002, x1003, x1004, x1005 => if x15 = true then (some (0, 7, x1000, x1001, x1003)) else (if x1 = 0 then (some (0, 0, x1000, x1001, x1003)) else (if (wrap64 (x1003 - 1)) = 0 then (none) else (if 0 ≤ x1 then (if x1 < (x1005.length : Int) then (if 0 ≤ (Int.tmod (wrap64 ((rd x1005 x1) * (Int.tmod (wrap64 ((Int.tmod x2 (wrap64 (x1003 - 1))) + (wrap64 (x1003 - 1)))) (wrap64 (x1003 - 1))))) (wrap64 (x1003 - 1))) then (if (Int.tmod (wrap64 ((rd x1005 x1) * (Int.tmod (wrap64 ((Int.tmod x2 (wrap64 (x1003 - 1))) + (wrap64 (x1003 - 1)))) (wrap64 (x1003 - 1))))) (wrap64 (x1003 - 1))) < (x1004.length : Int) then (some (rd x1004 (Int.tmod (wrap64 ((rd x1005 x1) * (Int.tmod (wrap64 ((Int.tmod x2 (wrap64 (x1003 - 1))) + (wrap64 (x1003 - 1)))) (wrap64 (x1003 - 1))))) (wrap64 (x1003 - 1))), 0, x1000, x1001, x1003)) else (none)) else (none)) else (none)) else (none))))
def field_GF_Pow.f (k : Nat) (s0_0 : Int) (s0_1 : Int) (s0_2 : List Int) (s0_3 : Int) (s0_4 : List Int) (s0_5 : List Int) (a1 : Int) (a2 : Int) : Option (Int × Int × Int × Int × Int) := (field_GF_in.f s0_0 s0_1 s0_2 s0_3 s0_4 s0_5 a1).bind fun bt130 => (if a2 = 0 then (some (1, 0, bt130.2.1, bt130.2.2.1, bt130.2.2.2)) else (if bt130.1 = 0 then (field_GF_Pow.j0 k bt130.1 a2 (decide (a2 < 0)) bt130.2.1 bt130.2.2.1 s0_2 bt130.2.2.2 s0_4 s0_5) else (field_GF_Pow.j0 k bt130.1 a2 false bt130.2.1 bt130.2.2.1 s0_2 bt130.2.2.2 s0_4 s0_5)))
set_option maxHeartbeats 8000000 in
set_option maxRecDepth 100000 in
theorem field_GF_Pow.calls (k : Nat) (g : Nat) (s0_0 : Int) (s0_1 : Int) (s0_2 : List Int) (s0_3 : Int) (s0_4 : List Int) (s0_5 : List Int) (a1 : Int) (a2 : Int) (r1 : Int) (r2 : Int) (r3 : Int) (r4 : Int) (r5 : Int) (w0 w : World) (hI : IsS68 w0 w g s0_0 s0_1 s0_2 s0_3 s0_4 s0_5) (hB : Below w0.heap.size w0 w) (h : field_GF_Pow.f k s0_0 s0_1 s0_2 s0_3 s0_4 s0_5 a1 a2 = some (r1, r2, r3, r4, r5)) :
  Calls Try.prog 16 #[.pointer (some ⟨g, 0, none⟩), .int .i64 a1, .int .i64 a2] w fun e w' => e = .returned (.tuple #[.int .i64 r1, .int .i64 r2]) ∧ IsS68 w0 w' g r3 r4 s0_2 r5 s0_4 s0_5 ∧ Below w0.heap.size w0 w' ∧ KeepBut w w' g none := by
 have HI0 := Q9a.mk hI
 have HK := Q9a.mk (KeepBut.refl w g none)
 have HL := Q9a.mk hB.size
 clear hI
 have HW0 := Q9a.mk hB.size
 have HB := Q9a.mk hB
 clear hB
 have H : ((field_GF_in.f s0_0 s0_1 s0_2 s0_3 s0_4 s0_5 a1).bind fun bt130 => (if a2 = 0 then (some (1, 0, bt130.2.1, bt130.2.2.1, bt130.2.2.2)) else (if bt130.1 = 0 then (field_GF_Pow.j0 k bt130.1 a2 (decide (a2 < 0)) bt130.2.1 bt130.2.2.1 s0_2 bt130.2.2.2 s0_4 s0_5) else (field_GF_Pow.j0 k bt130.1 a2 false bt130.2.1 bt130.2.2.1 s0_2 bt130.2.2.2 s0_4 s0_5)))) = some (r1, r2, r3, r4, r5) := h
 clear h
 replace H := Option.bind_eq_some_iff.mp H
 obtain ⟨⟨t130, t131, t132, t133⟩, A40, H⟩ := H
 replace H : (if a2 = 0 then (some (1, 0, t131, t132, t133)) else (if t130 = 0 then (field_GF_Pow.j0 k t130 a2 (decide (a2 < 0)) t131 t132 s0_2 t133 s0_4 s0_5) else (field_GF_Pow.j0 k t130 a2 false t131 t132 s0_2 t133 s0_4 s0_5))) = some (r1, r2, r3, r4, r5) := H
 have A4 := Q9a.mk A40
 clear A40
 by_cases c5 : a2 = 0
 ·rw [if_pos c5] at H
  have c5b0 : (a2 == 0) = true := beq_iff_eq.mpr c5
  have c5b1 : (a2 != 0) = false := bne_eq_false_iff_eq.mpr c5
  clear c5
  simp only [Option.some.injEq, Prod.mk.injEq] at H
  obtain ⟨rfl, rfl, rfl, rfl, rfl⟩ := H
  go_enter Try.func16, Try.ntmps16
  go_wp2_with (first | (go_at_call 44; (with_reducible refine (field_GF_in.calls g s0_0 s0_1 s0_2 s0_3 s0_4 s0_5 a1 t130 t131 t132 t133 w0 _ ?side1 ?side2 A4.out).mono ?_); (case side1 => repeat (first | (with_reducible first | exact HI0.out | apply IsS68.alloc | apply IsS68.drewN | apply IsS68.drew | apply IsS68.set_0 | apply IsS68.set_1 | apply IsS68.set_3) | exact HI0.out)); (case side2 => repeat (first | (with_reducible first | exact HB.out | apply bA | apply bN | apply bD | refine bS ?_ (IsS68.ge HI0.out)) | exact HB.out)); rintro e w6 ⟨rfl, hi, hb, hk⟩; have n0_ := Q9a.mk (KeepBut.trans (by repeat (first | (with_reducible first | exact HK.out | apply KeepBut.set_ | apply keep_drewN | apply keep_drew | apply keep_alloc) | exact HK.out)) hk (.inl rfl)); have n1_ := Q9a.mk (hb); have n2_ := Q9a.mk (hi); clear HK; clear HB; clear HI0; have HK := n0_; have HB := n1_; have HI0 := n2_; clear n0_ n1_ n2_; (try clear hb); (try clear hb2); (try clear hk); (try clear hi)))
  repeat (go_quiet (first | (go_at_call 44; (with_reducible refine (field_GF_in.calls g s0_0 s0_1 s0_2 s0_3 s0_4 s0_5 a1 t130 t131 t132 t133 w0 _ ?side1 ?side2 A4.out).mono ?_); (case side1 => repeat (first | (with_reducible first | exact HI0.out | apply IsS68.alloc | apply IsS68.drewN | apply IsS68.drew | apply IsS68.set_0 | apply IsS68.set_1 | apply IsS68.set_3) | exact HI0.out)); (case side2 => repeat (first | (with_reducible first | exact HB.out | apply bA | apply bN | apply bD | refine bS ?_ (IsS68.ge HI0.out)) | exact HB.out)); rintro e w6 ⟨rfl, hi, hb, hk⟩; have n0_ := Q9a.mk (KeepBut.trans (by repeat (first | (with_reducible first | exact HK.out | apply KeepBut.set_ | apply keep_drewN | apply keep_drew | apply keep_alloc) | exact HK.out)) hk (.inl rfl)); have n1_ := Q9a.mk (hb); have n2_ := Q9a.mk (hi); clear HK; clear HB; clear HI0; have HK := n0_; have HB := n1_; have HI0 := n2_; clear n0_ n1_ n2_; (try clear hb); (try clear hb2); (try clear hk); (try clear hi))); try go_wp2_with (first | (go_at_call 44; (with_reducible refine (field_GF_in.calls g s0_0 s0_1 s0_2 s0_3 s0_4 s0_5 a1 t130 t131 t132 t133 w0 _ ?side1 ?side2 A4.out).mono ?_); (case side1 => repeat (first | (with_reducible first | exact HI0.out | apply IsS68.alloc | apply IsS68.drewN | apply IsS68.drew | apply IsS68.set_0 | apply IsS68.set_1 | apply IsS68.set_3) | exact HI0.out)); (case side2 => repeat (first | (with_reducible first | exact HB.out | apply bA | apply bN | apply bD | refine bS ?_ (IsS68.ge HI0.out)) | exact HB.out)); rintro e w6 ⟨rfl, hi, hb, hk⟩; have n0_ := Q9a.mk (KeepBut.trans (by repeat (first | (with_reducible first | exact HK.out | apply KeepBut.set_ | apply keep_drewN | apply keep_drew | apply keep_alloc) | exact HK.out)) hk (.inl rfl)); have n1_ := Q9a.mk (hb); have n2_ := Q9a.mk (hi); clear HK; clear HB; clear HI0; have HK := n0_; have HB := n1_; have HI0 := n2_; clear n0_ n1_ n2_; (try clear hb); (try clear hb2); (try clear hk); (try clear hi))))
  go_ret2
  exact ⟨by first | rfl | (simp [eN, eS] <;> rfl) | (simp [*, eN, eS] <;> rfl), by repeat (first | (with_reducible first | exact HI0.out | apply IsS68.alloc | apply IsS68.drewN | apply IsS68.drew | apply IsS68.set_0 | apply IsS68.set_1 | apply IsS68.set_3) | exact HI0.out), by repeat (first | (with_reducible first | exact HB.out | apply bA | apply bN | apply bD | refine bS ?_ (IsS68.ge HI0.out)) | exact HB.out), by repeat (first | (with_reducible first | exact HK.out | apply KeepBut.set_ | apply keep_drewN | apply keep_drew | apply keep_alloc) | exact HK.out)⟩
 ·rw [if_neg c5] at H
  have c5b0 : (a2 == 0) = false := beq_eq_false_iff_ne.mpr c5
  have c5b1 : (a2 != 0) = true := bne_iff_ne.mpr c5
  have HC7 := Q9a.mk H
  clear H
  go_enter Try.func16, Try.ntmps16
  go_upto_region 4 with (first | (go_at_call 44; (with_reducible refine (field_GF_in.calls g s0_0 s0_1 s0_2 s0_3 s0_4 s0_5 a1 t130 t131 t132 t133 w0 _ ?side1 ?side2 A4.out).mono ?_); (case side1 => repeat (first | (with_reducible first | exact HI0.out | apply IsS68.alloc | apply IsS68.drewN | apply IsS68.drew | apply IsS68.set_0 | apply IsS68.set_1 | apply IsS68.set_3) | exact HI0.out)); (case side2 => repeat (first | (with_reducible first | exact HB.out | apply bA | apply bN | apply bD | refine bS ?_ (IsS68.ge HI0.out)) | exact HB.out)); rintro e w8 ⟨rfl, hi, hb, hk⟩; have n0_ := Q9a.mk (KeepBut.trans (by repeat (first | (with_reducible first | exact HK.out | apply KeepBut.set_ | apply keep_drewN | apply keep_drew | apply keep_alloc) | exact HK.out)) hk (.inl rfl)); have n1_ := Q9a.mk (hb); have n2_ := Q9a.mk (hi); clear HK; clear HB; clear HI0; have HK := n0_; have HB := n1_; have HI0 := n2_; clear n0_ n1_ n2_; (try clear hb); (try clear hb2); (try clear hk); (try clear hi)))
  repeat (go_quiet (first | (go_at_call 44; (with_reducible refine (field_GF_in.calls g s0_0 s0_1 s0_2 s0_3 s0_4 s0_5 a1 t130 t131 t132 t133 w0 _ ?side1 ?side2 A4.out).mono ?_); (case side1 => repeat (first | (with_reducible first | exact HI0.out | apply IsS68.alloc | apply IsS68.drewN | apply IsS68.drew | apply IsS68.set_0 | apply IsS68.set_1 | apply IsS68.set_3) | exact HI0.out)); (case side2 => repeat (first | (with_reducible first | exact HB.out | apply bA | apply bN | apply bD | refine bS ?_ (IsS68.ge HI0.out)) | exact HB.out)); rintro e w8 ⟨rfl, hi, hb, hk⟩; have n0_ := Q9a.mk (KeepBut.trans (by repeat (first | (with_reducible first | exact HK.out | apply KeepBut.set_ | apply keep_drewN | apply keep_drew | apply keep_alloc) | exact HK.out)) hk (.inl rfl)); have n1_ := Q9a.mk (hb); have n2_ := Q9a.mk (hi); clear HK; clear HB; clear HI0; have HK := n0_; have HB := n1_; have HI0 := n2_; clear n0_ n1_ n2_; (try clear hb); (try clear hb2); (try clear hk); (try clear hi))); go_upto_region 4 with (first | (go_at_call 44; (with_reducible refine (field_GF_in.calls g s0_0 s0_1 s0_2 s0_3 s0_4 s0_5 a1 t130 t131 t132 t133 w0 _ ?side1 ?side2 A4.out).mono ?_); (case side1 => repeat (first | (with_reducible first | exact HI0.out | apply IsS68.alloc | apply IsS68.drewN | apply IsS68.drew | apply IsS68.set_0 | apply IsS68.set_1 | apply IsS68.set_3) | exact HI0.out)); (case side2 => repeat (first | (with_reducible first | exact HB.out | apply bA | apply bN | apply bD | refine bS ?_ (IsS68.ge HI0.out)) | exact HB.out)); rintro e w8 ⟨rfl, hi, hb, hk⟩; have n0_ := Q9a.mk (KeepBut.trans (by repeat (first | (with_reducible first | exact HK.out | apply KeepBut.set_ | apply keep_drewN | apply keep_drew | apply keep_alloc) | exact HK.out)) hk (.inl rfl)); have n1_ := Q9a.mk (hb); have n2_ := Q9a.mk (hi); clear HK; clear HB; clear HI0; have HK := n0_; have HB := n1_; have HI0 := n2_; clear n0_ n1_ n2_; (try clear hb); (try clear hb2); (try clear hk); (try clear hi))))
  (try simp only [Act.put, sz1, sz2, sz3])
  go_cut [15] (fun v15 wc => ∃ (kq : Nat) (x15_6 : Bool), v15 = .bool x15_6 ∧ Q9a (field_GF_Pow.j0 kq t130 a2 x15_6 t131 t132 s0_2 t133 s0_4 s0_5 = some (r1, r2, r3, r4, r5)) ∧ Q9a (kq ≤ k) ∧ Q9a (IsS68 w0 wc g t131 t132 s0_2 t133 s0_4 s0_5) ∧ Q9a (KeepBut w wc g none) ∧ Q9a (Below w0.heap.size w0 wc))
  case first =>
   have H := HC7.out
   clear HC7
   by_cases c9 : t130 = 0
   ·rw [if_pos c9] at H
    have c9b0 : (t130 == 0) = true := beq_iff_eq.mpr c9
    have c9b1 : (t130 != 0) = false := bne_eq_false_iff_eq.mpr c9
    clear c9
    (first | rw [c9b0] | (simp only [i64_w, i32_w]; rw [c9b0]) | skip)
    have H' := Q9a.mk H
    clear H
    go_wp2
    repeat (go_quiet (fail); try go_wp2)
    go_meet
    case rel => exact ⟨_, (decide (a2 < 0)), (by first | rfl | (simp; done) | (simp [*]; done)), H', ⟨by first | omega | exact Nat.le_refl _⟩, ⟨by repeat (first | (with_reducible first | exact HI0.out | apply IsS68.alloc | apply IsS68.drewN | apply IsS68.drew | apply IsS68.set_0 | apply IsS68.set_1 | apply IsS68.set_3) | exact HI0.out)⟩, ⟨by repeat (first | (with_reducible first | exact HK.out | apply KeepBut.set_ | apply keep_drewN | apply keep_drew | apply keep_alloc) | exact HK.out)⟩, ⟨by repeat (first | (with_reducible first | exact HB.out | apply bA | apply bN | apply bD | refine bS ?_ (IsS68.ge HI0.out)) | exact HB.out)⟩⟩
   ·rw [if_neg c9] at H
    have c9b0 : (t130 == 0) = false := beq_eq_false_iff_ne.mpr c9
    have c9b1 : (t130 != 0) = true := bne_iff_ne.mpr c9
    (first | rw [c9b0] | (simp only [i64_w, i32_w]; rw [c9b0]) | skip)
    have H' := Q9a.mk H
    clear H
    go_wp2
    repeat (go_quiet (fail); try go_wp2)
    go_meet
    case rel => exact ⟨_, (false), (by first | rfl | (simp; done) | (simp [*]; done)), H', ⟨by first | omega | exact Nat.le_refl _⟩, ⟨by repeat (first | (with_reducible first | exact HI0.out | apply IsS68.alloc | apply IsS68.drewN | apply IsS68.drew | apply IsS68.set_0 | apply IsS68.set_1 | apply IsS68.set_3) | exact HI0.out)⟩, ⟨by repeat (first | (with_reducible first | exact HK.out | apply KeepBut.set_ | apply keep_drewN | apply keep_drew | apply keep_alloc) | exact HK.out)⟩, ⟨by repeat (first | (with_reducible first | exact HB.out | apply bA | apply bN | apply bD | refine bS ?_ (IsS68.ge HI0.out)) | exact HB.out)⟩⟩
  case rest =>
   clear HC7
   try clear c1
   try clear p2
   try clear c5
   try clear c5b0
   try clear c5b1
   try clear c9
   try clear c9b0
   try clear c9b1
   obtain ⟨kq, x15_6, rfl, HA, HJ6, HI0, HK, HB⟩ := hcut
   cases kq with
   | zero => exact absurd HA.out (by simp [field_GF_Pow.j0])
   | succ kj6 =>
    have H := HA.out
    clear HA
    simp only [field_GF_Pow.j0] at H
    by_cases c10 : x15_6 = true
    ·subst c10
     have H1 : (some (0, 7, t131, t132, t133)) = some (r1, r2, r3, r4, r5) := by rw [if_pos rfl] at H; exact H
     clear H
     have H := H1
     clear H1
     simp only [Option.some.injEq, Prod.mk.injEq] at H
     obtain ⟨rfl, rfl, rfl, rfl, rfl⟩ := H
     go_wp2
     repeat (go_quiet (fail); try go_wp2)
     go_ret2
     exact ⟨by first | rfl | (simp [eN, eS] <;> rfl) | (simp [*, eN, eS] <;> rfl), by repeat (first | (with_reducible first | exact HI0.out | apply IsS68.alloc | apply IsS68.drewN | apply IsS68.drew | apply IsS68.set_0 | apply IsS68.set_1 | apply IsS68.set_3) | exact HI0.out), by repeat (first | (with_reducible first | exact HB.out | apply bA | apply bN | apply bD | refine bS ?_ (IsS68.ge HI0.out)) | exact HB.out), by repeat (first | (with_reducible first | exact HK.out | apply KeepBut.set_ | apply keep_drewN | apply keep_drew | apply keep_alloc) | exact HK.out)⟩
    ·replace c10 := Bool.eq_false_iff.mpr c10
     subst c10
     have H1 : (if t130 = 0 then (some (0, 0, t131, t132, t133)) else (if (wrap64 (t133 - 1)) = 0 then (none) else (if 0 ≤ t130 then (if t130 < (s0_5.length : Int) then (if 0 ≤ (Int.tmod (wrap64 ((rd s0_5 t130) * (Int.tmod (wrap64 ((Int.tmod a2 (wrap64 (t133 - 1))) + (wrap64 (t133 - 1)))) (wrap64 (t133 - 1))))) (wrap64 (t133 - 1))) then (if (Int.tmod (wrap64 ((rd s0_5 t130) * (Int.tmod (wrap64 ((Int.tmod a2 (wrap64 (t133 - 1))) + (wrap64 (t133 - 1)))) (wrap64 (t133 - 1))))) (wrap64 (t133 - 1))) < (s0_4.length : Int) then (some (rd s0_4 (Int.tmod (wrap64 ((rd s0_5 t130) * (Int.tmod (wrap64 ((Int.tmod a2 (wrap64 (t133 - 1))) + (wrap64 (t133 - 1)))) (wrap64 (t133 - 1))))) (wrap64 (t133 - 1))), 0, t131, t132, t133)) else (none)) else (none)) else (none)) else (none)))) = some (r1, r2, r3, r4, r5) := by rw [if_neg (show ¬ (false = true) by decide)] at H; exact H
     clear H
     have H := H1
     clear H1
     by_cases c11 : t130 = 0
     ·rw [if_pos c11] at H
      have c11b0 : (t130 == 0) = true := beq_iff_eq.mpr c11
      have c11b1 : (t130 != 0) = false := bne_eq_false_iff_eq.mpr c11
      clear c11
      simp only [Option.some.injEq, Prod.mk.injEq] at H
      obtain ⟨rfl, rfl, rfl, rfl, rfl⟩ := H
      go_wp2
      repeat (go_quiet (fail); try go_wp2)
      go_ret2
      exact ⟨by first | rfl | (simp [eN, eS] <;> rfl) | (simp [*, eN, eS] <;> rfl), by repeat (first | (with_reducible first | exact HI0.out | apply IsS68.alloc | apply IsS68.drewN | apply IsS68.drew | apply IsS68.set_0 | apply IsS68.set_1 | apply IsS68.set_3) | exact HI0.out), by repeat (first | (with_reducible first | exact HB.out | apply bA | apply bN | apply bD | refine bS ?_ (IsS68.ge HI0.out)) | exact HB.out), by repeat (first | (with_reducible first | exact HK.out | apply KeepBut.set_ | apply keep_drewN | apply keep_drew | apply keep_alloc) | exact HK.out)⟩
     ·rw [if_neg c11] at H
      have c11b0 : (t130 == 0) = false := beq_eq_false_iff_ne.mpr c11
      have c11b1 : (t130 != 0) = true := bne_iff_ne.mpr c11
      by_cases c12 : (wrap64 (t133 - 1)) = 0
      ·rw [if_pos c12] at H
       exact absurd H (by simp)
      ·rw [if_neg c12] at H
       have c12b0 : ((wrap64 (t133 - 1)) == 0) = false := beq_eq_false_iff_ne.mpr c12
       have c12b1 : ((wrap64 (t133 - 1)) != 0) = true := bne_iff_ne.mpr c12
       by_cases c13 : 0 ≤ t130
       ·rw [if_pos c13] at H
        have c13b0 : decide (0 ≤ t130) = true := decide_eq_true c13
        clear c13
        by_cases c14 : t130 < (s0_5.length : Int)
        ·rw [if_pos c14] at H
         have c14b0 : decide (t130 < (s0_5.length : Int)) = true := decide_eq_true c14
         clear c14
         obtain ⟨ji15, hji15⟩ : ∃ j_ : Int, (Int.tmod (wrap64 ((rd s0_5 t130) * (Int.tmod (wrap64 ((Int.tmod a2 (wrap64 (t133 - 1))) + (wrap64 (t133 - 1)))) (wrap64 (t133 - 1))))) (wrap64 (t133 - 1))) = j_ := ⟨_, rfl⟩
         replace H : (if 0 ≤ (ji15) then (if (ji15) < (s0_4.length : Int) then (some (rd s0_4 (ji15), 0, t131, t132, t133)) else (none)) else (none)) = some (r1, r2, r3, r4, r5) := by first | (rw [hji15] at H; exact H) | (simp only [hji15] at H ⊢; exact H)
         by_cases c16 : 0 ≤ (ji15)
         ·rw [if_pos c16] at H
          have c16b0 : decide (0 ≤ (ji15)) = true := decide_eq_true c16
          clear c16
          by_cases c17 : (ji15) < (s0_4.length : Int)
          ·rw [if_pos c17] at H
           have c17b0 : decide ((ji15) < (s0_4.length : Int)) = true := decide_eq_true c17
           clear c17
           simp only [Option.some.injEq, Prod.mk.injEq] at H
           obtain ⟨rfl, rfl, rfl, rfl, rfl⟩ := H
           obtain ⟨ASz18_2, cSz18_2, ASz18_4, cSz18_4, ASz18_5, cSz18_5, HGz18, hgz18, HSz18_2, HSz18_4, HSz18_5⟩ := HI0.out
           have hcz18_0 := cellS68_0 HGz18
           have hcz18_1 := cellS68_1 HGz18
           have hcz18_2 := cellS68_2 HGz18
           have hcz18_3 := cellS68_3 HGz18
           have hcz18_4 := cellS68_4 HGz18
           have hcz18_5 := cellS68_5 HGz18
           have hfz18_0 := kF HGz18 0
           have hfz18_1 := kF HGz18 1
           have hfz18_3 := kF HGz18 3
           clear HGz18 hgz18
           have p134 : 0 ≤ (t130 : Int) := of_decide_eq_true (by first | (with_reducible assumption) | assumption)
           have q134 : t130 < (s0_5.length : Int) := of_decide_eq_true (by first | (with_reducible assumption) | assumption)
           obtain ⟨ad134, e134, hx134_0⟩ := Kd.at_int HSz18_5 t130 p134 q134
           cases e134
           replace hx134_0 := pw_cell_below HB.out hx134_0
           replace p134 := eq_true p134
           replace q134 := eq_true q134
           have p135 : 0 ≤ ((ji15) : Int) := of_decide_eq_true (by first | (with_reducible assumption) | assumption)
           have q135 : (ji15) < (s0_4.length : Int) := of_decide_eq_true (by first | (with_reducible assumption) | assumption)
           obtain ⟨ad135, e135, hx135_0⟩ := Kd.at_int HSz18_4 (ji15) p135 q135
           cases e135
           replace hx135_0 := pw_cell_below HB.out hx135_0
           replace p135 := eq_true p135
           replace q135 := eq_true q135
           go_wp2
           repeat (go_quiet (fail); try go_wp2)
           go_ret2
           exact ⟨by first | rfl | (simp [eN, eS] <;> rfl) | (simp only [← hji15]; first | rfl | (simp [eN, eS] <;> rfl)) | (simp [*, eN, eS] <;> rfl), by repeat (first | (with_reducible first | exact HI0.out | apply IsS68.alloc | apply IsS68.drewN | apply IsS68.drew | apply IsS68.set_0 | apply IsS68.set_1 | apply IsS68.set_3) | exact HI0.out), by repeat (first | (with_reducible first | exact HB.out | apply bA | apply bN | apply bD | refine bS ?_ (IsS68.ge HI0.out)) | exact HB.out), by repeat (first | (with_reducible first | exact HK.out | apply KeepBut.set_ | apply keep_drewN | apply keep_drew | apply keep_alloc) | exact HK.out)⟩
          ·rw [if_neg c17] at H
           exact absurd H (by simp)
         ·rw [if_neg c16] at H
          exact absurd H (by simp)
        ·rw [if_neg c14] at H
         exact absurd H (by simp)
       ·rw [if_neg c13] at H
        exact absurd H (by simp)
end
end Go.Proofs.Ytbohbfggmnjpdaa.GS
end
-- GmL
section
namespace Go.Proofs.Ytbohbfggmnjpdaa.Hand
open Go.RowKit Go.Proofs.YtbohbfggmnjpdaaW.PrintWords
theorem w64 {n : Int} (h0 : -9223372036854775808 ≤ n) (h1 : n < 9223372036854775808) : wrap64 n = n := by
 unfold wrap64; omega
theorem w64n (n : Nat) (h : n < 9223372036854775808) : wrap64 (n : Int) = n := w64 (by omega) (by omega)
theorem GFok.isS {w : World} {b : Nat} {G : GFv} (h : GFok w b G) : GS.IsS68 w w b (G.F.p : Int) (G.F.m : Int) G.mod (G.q : Int) G.exp G.log := by
 obtain ⟨A2, c2, A4, c4, A5, c5, h4, h5, h6, h7, h8, h9, h10⟩ := h
 exact ⟨A2, c2, A4, c4, A5, c5, h4, trivial, h5, h7, h9⟩
theorem gs_in (G : GFv) (x : Int) : GS.field_GF_in.f (G.F.p : Int) (G.F.m : Int) G.mod (G.q : Int) G.exp G.log x = some (G.inn x, (G.F.p : Int), (G.F.m : Int), (G.q : Int)) := by
 unfold GS.field_GF_in.f GS.field_GF_Is.f Cw.GFv.inn Cw.GFv.is
 by_cases h : 0 ≤ x
 ·rw [if_pos h]
  by_cases h2 : x < (G.q : Int)
  ·simp [h, h2]
  ·simp [h2]
 ·rw [if_neg h]
  simp [h]
theorem rd_exp (G : GFv) {i : Nat} (h : i < G.q - 1) : rd G.exp (i : Int) = G.num (Cw.pw G.gen i) := by
 unfold rd; rw [Int.toNat_natCast]; exact G.exp_at h
theorem rd_log (G : GFv) {x : Int} (h : G.is x) : rd G.log x = (G.lg (G.el x) : Int) := by
 unfold rd; exact G.log_el h
theorem inn_nat (G : GFv) (x : Int) : ∃ a : Nat, G.inn x = (a : Int) ∧ a < G.q ∧ (G.el x).code = a := by
 have h := G.inn_is x
 have h1 := h.1
 have h2 := h.2
 refine ⟨(G.inn x).toNat, by omega, by omega, ?_⟩
 have := G.num_el x
 unfold Cw.GFv.num at this
 omega
theorem log_len (G : GFv) : (G.log.length : Int) = (G.q : Int) := by rw [G.log_length]
theorem exp_len (G : GFv) : (G.exp.length : Int) = ((G.q - 1 : Nat) : Int) := by rw [G.exp_length]
end Go.Proofs.Ytbohbfggmnjpdaa.Hand
end
-- Pa1
section
namespace Go.Proofs.Ytbohbfggmnjpdaa.P
noncomputable section
open Go.RowKit Go.Proofs.Ytbohbfggmnjpdaa.Hand Go.Proofs.YtbohbfggmnjpdaaW.PrintWords Go.Proofs.YtbohbfggmnjpdaaW.PrintLast Go.Proofs.YtbohbfggmnjpdaaW.PrintMore
set_option linter.unusedVariables false
set_option linter.unusedSimpArgs false
mutual
def field_order.j0 : Nat → Int → Int → Bool → Option (Int)
 | 0, _, _, _ => none
 | k + 1, x0, x1, x19 => if x19 = true then (some 0) else (field_order.l0 k x0 1 x1 0)
def field_order.l0 : Nat → Int → Int → Int → Int → Option (Int)
 | 0, _, _, _, _ => none
 | k + 1, x0, x5, x20, x21 => if x21 < x20 then (if (wrap64 (x5 * x0)) > 256 then (some 0) else (field_order.l0 k x0 (wrap64 (x5 * x0)) x20 (wrap64 (x21 + 1)))) else (some x5)
end
def field_order.f (k : Nat) (a0 : Int) (a1 : Int) : Option (Int) := if a0 < 2 then (field_order.j0 k a0 a1 true) else (if a0 > 256 then (field_order.j0 k a0 a1 true) else (if a1 < 1 then (field_order.j0 k a0 a1 true) else (field_order.j0 k a0 a1 (decide (a1 > 8)))))
set_option maxHeartbeats 8000000 in
set_option maxRecDepth 100000 in
theorem field_order.calls (k : Nat) (a0 : Int) (a1 : Int) (r : Int) (w : World) (h : field_order.f k a0 a1 = some r) :
  Calls Try.prog 58 #[.int .i64 a0, .int .i64 a1] w fun e w' => e = .returned (.int .i64 r) ∧ Drawn0 w w' := by
 have H : (if a0 < 2 then (field_order.j0 k a0 a1 true) else (if a0 > 256 then (field_order.j0 k a0 a1 true) else (if a1 < 1 then (field_order.j0 k a0 a1 true) else (field_order.j0 k a0 a1 (decide (a1 > 8)))))) = some r := h
 clear h
 have HC3 := Q9a.mk H
 clear H
 go_enter Try.func58, Try.ntmps58
 go_upto_region 1 with (fail)
 go_cut [19] (fun v19 wc => ∃ (kq : Nat) (x19_2 : Bool), v19 = .bool x19_2 ∧ Q9a (field_order.j0 kq a0 a1 x19_2 = some r) ∧ Q9a (kq ≤ k) ∧ Drawn0 w wc)
 case first =>
  have H := HC3.out
  clear HC3
  by_cases c4 : a0 < 2
  ·rw [if_pos c4] at H
   have c4b0 : decide (a0 < 2) = true := decide_eq_true c4
   clear c4
   (first | rw [c4b0] | (simp only [i64_w, i32_w]; rw [c4b0]) | skip)
   have H' := Q9a.mk H
   clear H
   go_wp2
   go_meet
   case rel => exact ⟨_, (true), (by first | rfl | (simp; done) | (simp [*]; done)), H', ⟨by first | omega | exact Nat.le_refl _⟩, by repeat (first | exact Drawn0.refl _ | apply Drawn0.step)⟩
  ·rw [if_neg c4] at H
   have c4b0 : decide (a0 < 2) = false := decide_eq_false c4
   clear c4
   (first | rw [c4b0] | (simp only [i64_w, i32_w]; rw [c4b0]) | skip)
   by_cases c5 : a0 > 256
   ·rw [if_pos c5] at H
    have c5b0 : decide (256 < a0) = true := decide_eq_true c5
    clear c5
    have H' := Q9a.mk H
    clear H
    go_wp2
    go_meet
    case rel => exact ⟨_, (true), (by first | rfl | (simp; done) | (simp [*]; done)), H', ⟨by first | omega | exact Nat.le_refl _⟩, by repeat (first | exact Drawn0.refl _ | apply Drawn0.step)⟩
   ·rw [if_neg c5] at H
    have c5b0 : decide (256 < a0) = false := decide_eq_false c5
    clear c5
    by_cases c6 : a1 < 1
    ·rw [if_pos c6] at H
     have c6b0 : decide (a1 < 1) = true := decide_eq_true c6
     clear c6
     have H' := Q9a.mk H
     clear H
     go_wp2
     go_meet
     case rel => exact ⟨_, (true), (by first | rfl | (simp; done) | (simp [*]; done)), H', ⟨by first | omega | exact Nat.le_refl _⟩, by repeat (first | exact Drawn0.refl _ | apply Drawn0.step)⟩
    ·rw [if_neg c6] at H
     have c6b0 : decide (a1 < 1) = false := decide_eq_false c6
     clear c6
     have H' := Q9a.mk H
     clear H
     go_wp2
     go_meet
     case rel => exact ⟨_, (decide (a1 > 8)), (by first | rfl | (simp; done) | (simp [*]; done)), H', ⟨by first | omega | exact Nat.le_refl _⟩, by repeat (first | exact Drawn0.refl _ | apply Drawn0.step)⟩
 case rest =>
  clear HC3
  try clear p2
  try clear c4
  try clear c4b0
  try clear c5
  try clear c5b0
  try clear c6
  try clear c6b0
  obtain ⟨kq, x19_2, rfl, HA, HJ2, ⟨mc2, rfl⟩⟩ := hcut
  cases kq with
  | zero => exact absurd HA.out (by simp [field_order.j0])
  | succ kj2 =>
   have H := HA.out
   clear HA
   simp only [field_order.j0] at H
   by_cases c7 : x19_2 = true
   ·subst c7
    have H1 : (some 0) = some r := by rw [if_pos rfl] at H; exact H
    clear H
    have H := H1
    clear H1
    obtain rfl := Option.some.inj H
    go_wp2
    go_ret
    exact ⟨by first | rfl | (simp; done) | (simp [*]; done), by repeat (first | exact Drawn0.refl _ | apply Drawn0.step)⟩
   ·replace c7 := Bool.eq_false_iff.mpr c7
    subst c7
    have H1 : (field_order.l0 kj2 a0 1 a1 0) = some r := by rw [if_neg (show ¬ (false = true) by decide)] at H; exact H
    clear H
    have H := H1
    clear H1
    have H' := Q9a.mk H
    clear H
    go_wp2
    go_loopg [5, 21] kj2 (fun kq v5 v21 w' => ∃ (x5_2 : Int) (x21_2 : Int), v5 = .int .i64 x5_2 ∧ v21 = .int .i64 x21_2 ∧ Q9a (field_order.l0 kq a0 x5_2 a1 x21_2 = some r) ∧ Q9a (kq ≤ kj2) ∧ Drawn0 w w')
    case atStart => exact ⟨(1), (0), (by first | rfl | (simp; done) | (simp [*]; done)), (by first | rfl | (simp; done) | (simp [*]; done)), H', ⟨Nat.le_refl _⟩, by repeat (first | exact Drawn0.refl _ | apply Drawn0.step)⟩
    case round =>
     clear H'
     try clear c2
     try clear p2
     try clear c4
     try clear c4b0
     try clear c5
     try clear c5b0
     try clear c6
     try clear c6b0
     try clear c7
     try clear p2
     obtain ⟨x5_2, x21_2, rfl, rfl, HA, HK2, ⟨m2, rfl⟩⟩ := hrel
     cases gk with
     | zero => exact absurd HA.out (by simp [field_order.l0])
     | succ k2 =>
      have H := HA.out
      clear HA
      simp only [field_order.l0] at H
      by_cases c8 : x21_2 < a1
      ·rw [if_pos c8] at H
       have c8b0 : decide (x21_2 < a1) = true := decide_eq_true c8
       clear c8
       by_cases c9 : (wrap64 (x5_2 * a0)) > 256
       ·rw [if_pos c9] at H
        have c9b0 : decide (256 < (wrap64 (x5_2 * a0))) = true := decide_eq_true c9
        clear c9
        obtain rfl := Option.some.inj H
        go_wp2
        go_ret
        exact ⟨by first | rfl | (simp; done) | (simp [*]; done), by repeat (first | exact Drawn0.refl _ | apply Drawn0.step)⟩
       ·rw [if_neg c9] at H
        have c9b0 : decide (256 < (wrap64 (x5_2 * a0))) = false := decide_eq_false c9
        clear c9
        have H' := Q9a.mk H
        clear H
        go_wp2
        go_roundg k2
        case measure => have := HJ2.out; have := HK2.out; omega
        case rel => exact ⟨(wrap64 (x5_2 * a0)), (wrap64 (x21_2 + 1)), (by first | rfl | (simp; done) | (simp [*]; done)), (by first | rfl | (simp; done) | (simp [*]; done)), H', ⟨by have := HJ2.out; have := HK2.out; omega⟩, by repeat (first | exact Drawn0.refl _ | apply Drawn0.step)⟩
      ·rw [if_neg c8] at H
       have c8b0 : decide (x21_2 < a1) = false := decide_eq_false c8
       clear c8
       obtain rfl := Option.some.inj H
       go_wp2
       go_ret
       exact ⟨by first | rfl | (simp; done) | (simp [*]; done), by repeat (first | exact Drawn0.refl _ | apply Drawn0.step)⟩
def field_isPrime.l0 : Nat → Int → Int → Option (Bool)
 | 0, _, _ => none
 | k + 1, x0, x3 => if (wrap64 (x3 * x3)) ≤ x0 then (if x3 = 0 then (none) else (if (Int.tmod x0 x3) = 0 then (some false) else (field_isPrime.l0 k x0 (wrap64 (x3 + 1))))) else (some (decide (x0 ≥ 2)))
def field_isPrime.f (k : Nat) (a0 : Int) : Option (Bool) := field_isPrime.l0 k a0 2
set_option maxHeartbeats 8000000 in
set_option maxRecDepth 100000 in
theorem field_isPrime.calls (k : Nat) (a0 : Int) (r : Bool) (w : World) (h : field_isPrime.f k a0 = some r) :
  Calls Try.prog 65 #[.int .i64 a0] w fun e w' => e = .returned (.bool r) ∧ Drawn0 w w' := by
 have H : (field_isPrime.l0 k a0 2) = some r := h
 clear h
 have H' := Q9a.mk H
 clear H
 go_enter Try.func65, Try.ntmps65
 go_wp2
 go_loopg [3] k (fun kq v3 w' => ∃ (x3_1 : Int), v3 = .int .i64 x3_1 ∧ Q9a (field_isPrime.l0 kq a0 x3_1 = some r) ∧ Q9a (kq ≤ k) ∧ Drawn0 w w')
 case atStart => exact ⟨(2), (by first | rfl | (simp; done) | (simp [*]; done)), H', ⟨Nat.le_refl _⟩, by repeat (first | exact Drawn0.refl _ | apply Drawn0.step)⟩
 case round =>
  clear H'
  obtain ⟨x3_1, rfl, HA, HK1, ⟨m1, rfl⟩⟩ := hrel
  cases gk with
  | zero => exact absurd HA.out (by simp [field_isPrime.l0])
  | succ k1 =>
   have H := HA.out
   clear HA
   simp only [field_isPrime.l0] at H
   by_cases c2 : (wrap64 (x3_1 * x3_1)) ≤ a0
   ·rw [if_pos c2] at H
    have c2b0 : decide ((wrap64 (x3_1 * x3_1)) ≤ a0) = true := decide_eq_true c2
    clear c2
    by_cases c3 : x3_1 = 0
    ·rw [if_pos c3] at H
     exact absurd H (by simp)
    ·rw [if_neg c3] at H
     have c3b0 : (x3_1 == 0) = false := beq_eq_false_iff_ne.mpr c3
     have c3b1 : (x3_1 != 0) = true := bne_iff_ne.mpr c3
     by_cases c4 : (Int.tmod a0 x3_1) = 0
     ·rw [if_pos c4] at H
      have c4b0 : ((Int.tmod a0 x3_1) == 0) = true := beq_iff_eq.mpr c4
      have c4b1 : ((Int.tmod a0 x3_1) != 0) = false := bne_eq_false_iff_eq.mpr c4
      clear c4
      obtain rfl := Option.some.inj H
      go_wp2
      go_ret
      exact ⟨by first | rfl | (simp; done) | (simp [*]; done), by repeat (first | exact Drawn0.refl _ | apply Drawn0.step)⟩
     ·rw [if_neg c4] at H
      have c4b0 : ((Int.tmod a0 x3_1) == 0) = false := beq_eq_false_iff_ne.mpr c4
      have c4b1 : ((Int.tmod a0 x3_1) != 0) = true := bne_iff_ne.mpr c4
      have H' := Q9a.mk H
      clear H
      go_wp2
      go_roundg k1
      case measure => have := HK1.out; omega
      case rel => exact ⟨(wrap64 (x3_1 + 1)), (by first | rfl | (simp; done) | (simp [*]; done)), H', ⟨by have := HK1.out; omega⟩, by repeat (first | exact Drawn0.refl _ | apply Drawn0.step)⟩
   ·rw [if_neg c2] at H
    have c2b0 : decide ((wrap64 (x3_1 * x3_1)) ≤ a0) = false := decide_eq_false c2
    clear c2
    obtain rfl := Option.some.inj H
    go_wp2
    go_ret
    exact ⟨by first | rfl | (simp; done) | (simp [*]; done), by repeat (first | exact Drawn0.refl _ | apply Drawn0.step)⟩
mutual
def field_shape.j0 : Nat → Bool → Int → Int → List Int → Option (Bool)
 | 0, _, _, _, _ => none
 | k + 1, x16, x102000, x102001, x102002 => if x16 = true then (some false) else (if x102001 = 1 then (some ((x102002.length : Int) == 0)) else (if (x102002.length : Int) = x102001 then (field_shape.l0 k x102002 (x102002.length : Int) 0 x102000 x102001 x102002) else (some false)))
def field_shape.l0 : Nat → List Int → Int → Int → Int → Int → List Int → Option (Bool)
 | 0, _, _, _, _, _, _ => none
 | k + 1, x31, x32, x33, x102000, x102001, x102002 => if x33 < x32 then (if 0 ≤ x33 then (if x33 < (x31.length : Int) then (if (rd x31 x33) < 0 then (some false) else (if (rd x31 x33) ≥ x102000 then (some false) else (field_shape.l0 k x31 x32 (wrap64 (x33 + 1)) x102000 x102001 x102002))) else (none)) else (none)) else (some true)
end
def field_shape.f (k : Nat) (a0_0 : Int) (a0_1 : Int) (l0_2 : List Int) : Option (Bool) := (field_order.f k a0_0 a0_1).bind fun t102 => (if t102 = 0 then (field_shape.j0 k true a0_0 a0_1 l0_2) else ((field_isPrime.f k a0_0).bind fun t103 => (field_shape.j0 k (!t103) a0_0 a0_1 l0_2)))
set_option maxHeartbeats 8000000 in
set_option maxRecDepth 100000 in
theorem field_shape.calls (k : Nat) (a0_0 : Int) (a0_1 : Int) (A0_2 : Option Addr) (c0_2 : Nat) (l0_2 : List Int) (r : Bool) (w : World) (hr0_2 : Kd.C (Kd.int .i64) w A0_2 l0_2.length l0_2) (hc0_2 : l0_2.length ≤ c0_2) (h : field_shape.f k a0_0 a0_1 l0_2 = some r) :
  Calls Try.prog 57 #[.agg #[.int .i64 a0_0, .int .i64 a0_1, .slice A0_2 l0_2.length c0_2]] w fun e w' => e = .returned (.bool r) ∧ Below w.heap.size w w' := by
 have hu24 := Try.underlying24
 have HR0_2 := Q9a.mk hr0_2
 have HC0_2 := Q9a.mk hc0_2
 clear hr0_2 hc0_2
 have HB := Q9a.mk (Below.refl w.heap.size w)
 have H : ((field_order.f k a0_0 a0_1).bind fun t102 => (if t102 = 0 then (field_shape.j0 k true a0_0 a0_1 l0_2) else ((field_isPrime.f k a0_0).bind fun t103 => (field_shape.j0 k (!t103) a0_0 a0_1 l0_2)))) = some r := h
 clear h
 have HC2 := Q9a.mk H
 clear H
 go_enter Try.func57, Try.ntmps57
 go_upto_region 1 with (first | ((with_reducible refine gate_dst (N := 1) rfl ?_); refine box_event ?hg (N := 1) ?hd (cs := #[.int .i64 a0_0, .int .i64 a0_1, .slice A0_2 l0_2.length c0_2]) (t := 24) ?hr ?_; (case hd => rfl); (case hg => rfl); (case hr => first | (go_simp; done) | (go_simp; rfl)); intro gb101 hg w3 hbox hb; have n0_ := Q9a.mk (bP (by repeat (first | (with_reducible first | exact HB.out | apply bA | apply bN | apply bD) | exact HB.out)) hb); have n1_ := Q9a.mk (hbox); have n2_ := Q9a.mk ((by rw [hg]; exact (bZ (by repeat (first | (with_reducible first | exact HB.out | apply bA | apply bN | apply bD) | exact HB.out))) : w.heap.size ≤ gb101)); have n3_ := Q9a.mk ((by rw [hg]; exact (bZ (by repeat (first | (with_reducible first | exact HB.out | apply bA | apply bN | apply bD) | exact HB.out))) : w.heap.size ≤ gb101)); clear HB; have HB := n0_; have BK101 := n1_; have GW101 := n2_; have GE101 := n3_; clear n0_ n1_ n2_ n3_; clear hb hbox hg))
 (try simp only [Act.put, sz1, sz2, sz3])
 go_cut [16] (fun v16 wc => ∃ (kq : Nat) (x16_1 : Bool), v16 = .bool x16_1 ∧ Q9a (field_shape.j0 kq x16_1 a0_0 a0_1 l0_2 = some r) ∧ Q9a (kq ≤ k) ∧ Q9a (wc.heap[gb101]? = some (.cells #[.int .i64 a0_0, .int .i64 a0_1, (.slice A0_2 l0_2.length c0_2)] 24 (0, 0))) ∧ Q9a (Below w.heap.size w wc))
 case first =>
  have H := HC2.out
  clear HC2
  replace H := Option.bind_eq_some_iff.mp H
  obtain ⟨t102, A40, H⟩ := H
  replace H : (if t102 = 0 then (field_shape.j0 k true a0_0 a0_1 l0_2) else ((field_isPrime.f k a0_0).bind fun t103 => (field_shape.j0 k (!t103) a0_0 a0_1 l0_2))) = some r := H
  have A4 := Q9a.mk A40
  clear A40
  by_cases c5 : t102 = 0
  ·rw [if_pos c5] at H
   have c5b0 : (t102 == 0) = true := beq_iff_eq.mpr c5
   have c5b1 : (t102 != 0) = false := bne_eq_false_iff_eq.mpr c5
   clear c5
   (first | rw [c5b0] | (simp only [i64_w, i32_w]; rw [c5b0]) | skip)
   have H' := Q9a.mk H
   clear H
   have hcz6_0 : w3.cell? ⟨gb101, 0, none⟩ = some (.int .i64 a0_0) := (kC BK101.out 0).trans rfl
   have hcz6_1 : w3.cell? ⟨gb101, 1, none⟩ = some (.int .i64 a0_1) := (kC BK101.out 1).trans rfl
   have hcz6_2 : w3.cell? ⟨gb101, 2, none⟩ = some (.slice A0_2 l0_2.length c0_2) := (kC BK101.out 2).trans rfl
   have hfz6_0 := kF BK101.out 0
   have hfz6_1 := kF BK101.out 1
   have hfz6_2 := kF BK101.out 2
   go_wp2_with (first | ((with_reducible refine gate_callee (f := 58) rfl ?_); refine goesL_ (some 9) rfl rfl Try.func58 (by kernel_rfl) rfl #[.int .i64 a0_0, .int .i64 a0_1] rfl (by (try simp only [List.map_toArray, List.map_cons, List.map_nil]); first | done | rfl | (simp only [List.length_drop, List.length_take]; rfl)) ?_; (with_reducible refine (field_order.calls k a0_0 a0_1 t102 _ A4.out).mono ?_); rintro e w' ⟨rfl, ⟨nd, rfl⟩⟩; refine ⟨_, rfl, ?_⟩))
   go_meet
   case rel => exact ⟨_, (true), (by first | rfl | (simp; done) | (simp [*]; done)), H', ⟨by first | omega | exact Nat.le_refl _⟩, ⟨by (with_reducible repeat (first | refine kN ?_ _ | refine kD ?_ | refine kA ?_ _)); exact BK101.out⟩, ⟨by repeat (first | (with_reducible first | exact HB.out | apply bA | apply bN | apply bD | refine bS ?_ GE101.out) | exact HB.out)⟩⟩
  ·rw [if_neg c5] at H
   have c5b0 : (t102 == 0) = false := beq_eq_false_iff_ne.mpr c5
   have c5b1 : (t102 != 0) = true := bne_iff_ne.mpr c5
   (first | rw [c5b0] | (simp only [i64_w, i32_w]; rw [c5b0]) | skip)
   replace H := Option.bind_eq_some_iff.mp H
   obtain ⟨t103, A70, H⟩ := H
   replace H : (field_shape.j0 k (!t103) a0_0 a0_1 l0_2) = some r := H
   have A7 := Q9a.mk A70
   clear A70
   have H' := Q9a.mk H
   clear H
   have hcz8_0 : w3.cell? ⟨gb101, 0, none⟩ = some (.int .i64 a0_0) := (kC BK101.out 0).trans rfl
   have hcz8_1 : w3.cell? ⟨gb101, 1, none⟩ = some (.int .i64 a0_1) := (kC BK101.out 1).trans rfl
   have hcz8_2 : w3.cell? ⟨gb101, 2, none⟩ = some (.slice A0_2 l0_2.length c0_2) := (kC BK101.out 2).trans rfl
   have hfz8_0 := kF BK101.out 0
   have hfz8_1 := kF BK101.out 1
   have hfz8_2 := kF BK101.out 2
   go_wp2_with (first | ((with_reducible refine gate_callee (f := 58) rfl ?_); refine goesL_ (some 9) rfl rfl Try.func58 (by kernel_rfl) rfl #[.int .i64 a0_0, .int .i64 a0_1] rfl (by (try simp only [List.map_toArray, List.map_cons, List.map_nil]); first | done | rfl | (simp only [List.length_drop, List.length_take]; rfl)) ?_; (with_reducible refine (field_order.calls k a0_0 a0_1 t102 _ A4.out).mono ?_); rintro e w' ⟨rfl, ⟨nd, rfl⟩⟩; refine ⟨_, rfl, ?_⟩) | (go_at_call 65; (with_reducible refine (field_isPrime.calls k a0_0 t103 _ A7.out).mono ?_); rintro e w' ⟨rfl, ⟨nd, rfl⟩⟩))
   go_meet
   case rel => exact ⟨_, (!t103), (by first | rfl | (simp; done) | (simp [*]; done)), H', ⟨by first | omega | exact Nat.le_refl _⟩, ⟨by (with_reducible repeat (first | refine kN ?_ _ | refine kD ?_ | refine kA ?_ _)); exact BK101.out⟩, ⟨by repeat (first | (with_reducible first | exact HB.out | apply bA | apply bN | apply bD | refine bS ?_ GE101.out) | exact HB.out)⟩⟩
 case rest =>
  clear HC2
  try clear p2
  try clear c5
  try clear c5b0
  try clear c5b1
  try clear hcz6_0
  try clear hcz6_1
  try clear hcz6_2
  try clear hcz8_0
  try clear hcz8_1
  try clear hcz8_2
  try clear hfz6_0
  try clear hfz6_1
  try clear hfz6_2
  try clear hfz8_0
  try clear hfz8_1
  try clear hfz8_2
  obtain ⟨kq, x16_1, rfl, HA, HJ1, BK101, HB⟩ := hcut
  cases kq with
  | zero => exact absurd HA.out (by simp [field_shape.j0])
  | succ kj1 =>
   have H := HA.out
   clear HA
   simp only [field_shape.j0] at H
   by_cases c9 : x16_1 = true
   ·subst c9
    have H1 : (some false) = some r := by rw [if_pos rfl] at H; exact H
    clear H
    have H := H1
    clear H1
    obtain rfl := Option.some.inj H
    go_wp2
    go_ret
    exact ⟨by first | rfl | (simp [eN, eS] <;> rfl) | (simp [*, eN, eS] <;> rfl), by repeat (first | (with_reducible first | exact HB.out | apply bA | apply bN | apply bD | refine bS ?_ GE101.out) | exact HB.out)⟩
   ·replace c9 := Bool.eq_false_iff.mpr c9
    subst c9
    have H1 : (if a0_1 = 1 then (some ((l0_2.length : Int) == 0)) else (if (l0_2.length : Int) = a0_1 then (field_shape.l0 kj1 l0_2 (l0_2.length : Int) 0 a0_0 a0_1 l0_2) else (some false))) = some r := by rw [if_neg (show ¬ (false = true) by decide)] at H; exact H
    clear H
    have H := H1
    clear H1
    by_cases c10 : a0_1 = 1
    ·rw [if_pos c10] at H
     have c10b0 : (a0_1 == 1) = true := beq_iff_eq.mpr c10
     have c10b1 : (a0_1 != 1) = false := bne_eq_false_iff_eq.mpr c10
     clear c10
     obtain rfl := Option.some.inj H
     have hcz11_0 : wc.cell? ⟨gb101, 0, none⟩ = some (.int .i64 a0_0) := (kC BK101.out 0).trans rfl
     have hcz11_1 : wc.cell? ⟨gb101, 1, none⟩ = some (.int .i64 a0_1) := (kC BK101.out 1).trans rfl
     have hcz11_2 : wc.cell? ⟨gb101, 2, none⟩ = some (.slice A0_2 l0_2.length c0_2) := (kC BK101.out 2).trans rfl
     have hfz11_0 := kF BK101.out 0
     have hfz11_1 := kF BK101.out 1
     have hfz11_2 := kF BK101.out 2
     go_wp2
     go_ret
     exact ⟨by first | rfl | (simp [eN, eS] <;> rfl) | (simp [*, eN, eS] <;> rfl), by repeat (first | (with_reducible first | exact HB.out | apply bA | apply bN | apply bD | refine bS ?_ GE101.out) | exact HB.out)⟩
    ·rw [if_neg c10] at H
     have c10b0 : (a0_1 == 1) = false := beq_eq_false_iff_ne.mpr c10
     have c10b1 : (a0_1 != 1) = true := bne_iff_ne.mpr c10
     by_cases c12 : (l0_2.length : Int) = a0_1
     ·rw [if_pos c12] at H
      have c12b0 : ((l0_2.length : Int) == a0_1) = true := beq_iff_eq.mpr c12
      have c12b1 : ((l0_2.length : Int) != a0_1) = false := bne_eq_false_iff_eq.mpr c12
      clear c12
      have H' := Q9a.mk H
      clear H
      have hcz13_0 : wc.cell? ⟨gb101, 0, none⟩ = some (.int .i64 a0_0) := (kC BK101.out 0).trans rfl
      have hcz13_1 : wc.cell? ⟨gb101, 1, none⟩ = some (.int .i64 a0_1) := (kC BK101.out 1).trans rfl
      have hcz13_2 : wc.cell? ⟨gb101, 2, none⟩ = some (.slice A0_2 l0_2.length c0_2) := (kC BK101.out 2).trans rfl
      have hfz13_0 := kF BK101.out 0
      have hfz13_1 := kF BK101.out 1
      have hfz13_2 := kF BK101.out 2
      go_wp2
      go_loopg [33] kj1 (fun kq v33 w' => ∃ (x33_2 : Int), v33 = .int .i64 x33_2 ∧ Q9a (field_shape.l0 kq l0_2 (l0_2.length : Int) x33_2 a0_0 a0_1 l0_2 = some r) ∧ Q9a (kq ≤ kj1) ∧ Q9a (w'.heap[gb101]? = some (.cells #[.int .i64 a0_0, .int .i64 a0_1, (.slice A0_2 l0_2.length c0_2)] 24 (0, 0))) ∧ Q9a (Below w.heap.size w w'))
      case atStart => exact ⟨(0), (by first | rfl | (simp; done) | (simp [*]; done)), H', ⟨Nat.le_refl _⟩, ⟨by (with_reducible repeat (first | refine kN ?_ _ | refine kD ?_ | refine kA ?_ _)); exact BK101.out⟩, ⟨by repeat (first | (with_reducible first | exact HB.out | apply bA | apply bN | apply bD | refine bS ?_ GE101.out) | exact HB.out)⟩⟩
      case round =>
       clear H'
       try clear c1
       try clear p2
       try clear c5
       try clear c5b0
       try clear c5b1
       try clear c9
       try clear c10
       try clear c10b0
       try clear c10b1
       try clear c12
       try clear c12b0
       try clear c12b1
       try clear hcz11_0
       try clear hcz11_1
       try clear hcz11_2
       try clear hcz13_0
       try clear hcz13_1
       try clear hcz13_2
       try clear hcz6_0
       try clear hcz6_1
       try clear hcz6_2
       try clear hcz8_0
       try clear hcz8_1
       try clear hcz8_2
       try clear hfz11_0
       try clear hfz11_1
       try clear hfz11_2
       try clear hfz13_0
       try clear hfz13_1
       try clear hfz13_2
       try clear hfz6_0
       try clear hfz6_1
       try clear hfz6_2
       try clear hfz8_0
       try clear hfz8_1
       try clear hfz8_2
       try clear p2
       obtain ⟨x33_2, rfl, HA, HK2, BK101, HB⟩ := hrel
       cases gk with
       | zero => exact absurd HA.out (by simp [field_shape.l0])
       | succ k2 =>
        have H := HA.out
        clear HA
        simp only [field_shape.l0] at H
        by_cases c14 : x33_2 < (l0_2.length : Int)
        ·rw [if_pos c14] at H
         have c14b0 : decide (x33_2 < (l0_2.length : Int)) = true := decide_eq_true c14
         clear c14
         by_cases c15 : 0 ≤ x33_2
         ·rw [if_pos c15] at H
          have c15b0 : decide (0 ≤ x33_2) = true := decide_eq_true c15
          clear c15
          by_cases c16 : x33_2 < (l0_2.length : Int)
          ·rw [if_pos c16] at H
           have c16b0 : decide (x33_2 < (l0_2.length : Int)) = true := decide_eq_true c16
           clear c16
           by_cases c17 : (rd l0_2 x33_2) < 0
           ·rw [if_pos c17] at H
            have c17b0 : decide ((rd l0_2 x33_2) < 0) = true := decide_eq_true c17
            clear c17
            obtain rfl := Option.some.inj H
            have p104 : 0 ≤ (x33_2 : Int) := of_decide_eq_true (by first | (with_reducible assumption) | assumption)
            have q104 : x33_2 < (l0_2.length : Int) := of_decide_eq_true (by first | (with_reducible assumption) | assumption)
            obtain ⟨ad104, e104, hx104_0⟩ := Kd.at_int HR0_2.out x33_2 p104 q104
            cases e104
            replace hx104_0 := (HB.out.cell (World.block_lt_of_cell? w _ hx104_0)).trans hx104_0
            replace p104 := eq_true p104
            replace q104 := eq_true q104
            go_wp2
            go_ret
            exact ⟨by first | rfl | (simp [eN, eS] <;> rfl) | (simp [*, eN, eS] <;> rfl), by repeat (first | (with_reducible first | exact HB.out | apply bA | apply bN | apply bD | refine bS ?_ GE101.out) | exact HB.out)⟩
           ·rw [if_neg c17] at H
            have c17b0 : decide ((rd l0_2 x33_2) < 0) = false := decide_eq_false c17
            clear c17
            by_cases c18 : (rd l0_2 x33_2) ≥ a0_0
            ·rw [if_pos c18] at H
             have c18b0 : decide (a0_0 ≤ (rd l0_2 x33_2)) = true := decide_eq_true c18
             clear c18
             obtain rfl := Option.some.inj H
             have p104 : 0 ≤ (x33_2 : Int) := of_decide_eq_true (by first | (with_reducible assumption) | assumption)
             have q104 : x33_2 < (l0_2.length : Int) := of_decide_eq_true (by first | (with_reducible assumption) | assumption)
             obtain ⟨ad104, e104, hx104_0⟩ := Kd.at_int HR0_2.out x33_2 p104 q104
             cases e104
             replace hx104_0 := (HB.out.cell (World.block_lt_of_cell? w _ hx104_0)).trans hx104_0
             replace p104 := eq_true p104
             replace q104 := eq_true q104
             have hcz19_0 : wr.cell? ⟨gb101, 0, none⟩ = some (.int .i64 a0_0) := (kC BK101.out 0).trans rfl
             have hcz19_1 : wr.cell? ⟨gb101, 1, none⟩ = some (.int .i64 a0_1) := (kC BK101.out 1).trans rfl
             have hcz19_2 : wr.cell? ⟨gb101, 2, none⟩ = some (.slice (some ad104) l0_2.length c0_2) := (kC BK101.out 2).trans rfl
             have hfz19_0 := kF BK101.out 0
             have hfz19_1 := kF BK101.out 1
             have hfz19_2 := kF BK101.out 2
             go_wp2
             go_ret
             exact ⟨by first | rfl | (simp [eN, eS] <;> rfl) | (simp [*, eN, eS] <;> rfl), by repeat (first | (with_reducible first | exact HB.out | apply bA | apply bN | apply bD | refine bS ?_ GE101.out) | exact HB.out)⟩
            ·rw [if_neg c18] at H
             have c18b0 : decide (a0_0 ≤ (rd l0_2 x33_2)) = false := decide_eq_false c18
             clear c18
             have H' := Q9a.mk H
             clear H
             have p104 : 0 ≤ (x33_2 : Int) := of_decide_eq_true (by first | (with_reducible assumption) | assumption)
             have q104 : x33_2 < (l0_2.length : Int) := of_decide_eq_true (by first | (with_reducible assumption) | assumption)
             obtain ⟨ad104, e104, hx104_0⟩ := Kd.at_int HR0_2.out x33_2 p104 q104
             cases e104
             replace hx104_0 := (HB.out.cell (World.block_lt_of_cell? w _ hx104_0)).trans hx104_0
             replace p104 := eq_true p104
             replace q104 := eq_true q104
             have hcz20_0 : wr.cell? ⟨gb101, 0, none⟩ = some (.int .i64 a0_0) := (kC BK101.out 0).trans rfl
             have hcz20_1 : wr.cell? ⟨gb101, 1, none⟩ = some (.int .i64 a0_1) := (kC BK101.out 1).trans rfl
             have hcz20_2 : wr.cell? ⟨gb101, 2, none⟩ = some (.slice (some ad104) l0_2.length c0_2) := (kC BK101.out 2).trans rfl
             have hfz20_0 := kF BK101.out 0
             have hfz20_1 := kF BK101.out 1
             have hfz20_2 := kF BK101.out 2
             go_wp2
             go_roundg k2
             case measure => have := HJ1.out; have := HK2.out; omega
             case rel => exact ⟨(wrap64 (x33_2 + 1)), (by first | rfl | (simp; done) | (simp [*]; done)), H', ⟨by have := HJ1.out; have := HK2.out; omega⟩, ⟨by (with_reducible repeat (first | refine kN ?_ _ | refine kD ?_ | refine kA ?_ _)); exact BK101.out⟩, ⟨by repeat (first | (with_reducible first | exact HB.out | apply bA | apply bN | apply bD | refine bS ?_ GE101.out) | exact HB.out)⟩⟩
          ·rw [if_neg c16] at H
           exact absurd H (by simp)
         ·rw [if_neg c15] at H
          exact absurd H (by simp)
        ·rw [if_neg c14] at H
         have c14b0 : decide (x33_2 < (l0_2.length : Int)) = false := decide_eq_false c14
         clear c14
         obtain rfl := Option.some.inj H
         go_wp2
         go_ret
         exact ⟨by first | rfl | (simp [eN, eS] <;> rfl) | (simp [*, eN, eS] <;> rfl), by repeat (first | (with_reducible first | exact HB.out | apply bA | apply bN | apply bD | refine bS ?_ GE101.out) | exact HB.out)⟩
     ·rw [if_neg c12] at H
      have c12b0 : ((l0_2.length : Int) == a0_1) = false := beq_eq_false_iff_ne.mpr c12
      have c12b1 : ((l0_2.length : Int) != a0_1) = true := bne_iff_ne.mpr c12
      obtain rfl := Option.some.inj H
      have hcz21_0 : wc.cell? ⟨gb101, 0, none⟩ = some (.int .i64 a0_0) := (kC BK101.out 0).trans rfl
      have hcz21_1 : wc.cell? ⟨gb101, 1, none⟩ = some (.int .i64 a0_1) := (kC BK101.out 1).trans rfl
      have hcz21_2 : wc.cell? ⟨gb101, 2, none⟩ = some (.slice A0_2 l0_2.length c0_2) := (kC BK101.out 2).trans rfl
      have hfz21_0 := kF BK101.out 0
      have hfz21_1 := kF BK101.out 1
      have hfz21_2 := kF BK101.out 2
      go_wp2
      go_ret
      exact ⟨by first | rfl | (simp [eN, eS] <;> rfl) | (simp [*, eN, eS] <;> rfl), by repeat (first | (with_reducible first | exact HB.out | apply bA | apply bN | apply bD | refine bS ?_ GE101.out) | exact HB.out)⟩
def field_digitsOf.l0 : Nat → Int → Int → List Int → Int → Int → Option (List Int)
 | 0, _, _, _, _, _ => none
 | k + 1, x0, x1, x7, x12, x13 => if x13 < x12 then (if x1 = 0 then (none) else (if 0 ≤ x13 then (if x13 < (x7.length : Int) then (field_digitsOf.l0 k (wrap64 (Int.tdiv x0 x1)) x1 (x7.set (x13 : Int).toNat (Int.tmod x0 x1)) x12 (wrap64 (x13 + 1))) else (none)) else (none))) else (some x7)
def field_digitsOf.f (k : Nat) (a0 : Int) (a1 : Int) (a2 : Int) : Option (List Int) := if 0 ≤ a2 then (if (a2 : Int).toNat ≤ 35184372088832 then ((some (List.replicate (a2 : Int).toNat 0 : List Int)).bind fun y105 => (field_digitsOf.l0 k a0 a1 y105 (y105.length : Int) 0)) else (none)) else (none)
set_option maxHeartbeats 8000000 in
set_option maxRecDepth 100000 in
theorem field_digitsOf.calls (k : Nat) (a0 : Int) (a1 : Int) (a2 : Int) (r : List Int) (w : World) (h : field_digitsOf.f k a0 a1 a2 = some r) :
  Calls Try.prog 71 #[.int .i64 a0, .int .i64 a1, .int .i64 a2] w fun e w' => ∃ v0_ : Value, e = .returned (v0_) ∧ Kd.R (Kd.int .i64) 3 w' w.heap.size (fun _ => True) v0_ r ∧ Below w.heap.size w w' := by
 have HB := Q9a.mk (Below.refl w.heap.size w)
 have H : (if 0 ≤ a2 then (if (a2 : Int).toNat ≤ 35184372088832 then ((some (List.replicate (a2 : Int).toNat 0 : List Int)).bind fun y105 => (field_digitsOf.l0 k a0 a1 y105 (y105.length : Int) 0)) else (none)) else (none)) = some r := h
 clear h
 by_cases c4 : 0 ≤ a2
 ·rw [if_pos c4] at H
  have c4b0 := eq_true c4
  have c4b1 : decide (0 ≤ a2) = true := decide_eq_true c4
  clear c4
  by_cases c5 : (a2 : Int).toNat ≤ 35184372088832
  ·rw [if_pos c5] at H
   have c5b0 := eq_true c5
   have c5b1 : decide ((a2 : Int).toNat ≤ 35184372088832) = true := decide_eq_true c5
   clear c5
   obtain ⟨y105, hy105⟩ : ∃ y_ : List Int, y_ = (List.replicate (a2 : Int).toNat 0) := ⟨_, rfl⟩
   replace H : (field_digitsOf.l0 k a0 a1 y105 (y105.length : Int) 0) = some r := by first | (rw [hy105]; with_reducible exact H) | (have H2_ := (Option.bind_some _ _).symm.trans H; rw [hy105]; with_reducible exact H2_) | (have H2_ := (Option.bind_some _ _).symm.trans H; with_reducible exact H2_) | with_reducible exact H | (rw [hy105]; exact H) | exact H
   have Ny105 := Q9a.mk hy105
   clear hy105
   have H' := Q9a.mk H
   clear H
   go_enter Try.func71, Try.ntmps71
   go_wp2_with (first | ((with_reducible refine gate_dst (N := 10) rfl ?_); refine Kd.R_make (Kd.int .i64) _ 3 rfl (N := 10) rfl 22 _ _ rfl a2 rfl rfl Try.underlying22 (.int .i64 0) 8 info3 rfl (by decide) (by omega) 0 (ok := fun _ => True) (okp := fun _ => True) rfl (fun _ hk => hk) trivial (of_decide_eq_true (by first | (with_reducible assumption) | assumption)) (Nat.le_trans (Nat.mul_le_mul_right _ (of_decide_eq_true (by first | (with_reducible assumption) | assumption) : a2.toNat ≤ 35184372088832)) (by omega)) (Below.refl _ _) (Nat.le_refl _) ?_; intro v106 w6 ho7 hb hg_ hnew_; clear hg_ hnew_; (first | rw [← Ny105.out] at ho7 | (simp only [Int.reduceToNat] at ho7; rw [← Ny105.out] at ho7)); have n0_ := Q9a.mk (Kd.R_lower ho7 (bZ (by repeat (first | (with_reducible first | exact HB.out | apply bA | apply bN | apply bD) | exact HB.out)))); have n1_ := Q9a.mk (bP (by repeat (first | (with_reducible first | exact HB.out | apply bA | apply bN | apply bD) | exact HB.out)) hb); clear HB; have HO107 := n0_; have HB := n1_; clear n0_ n1_; clear hb ho7; obtain ⟨Ao8, co8, eo8⟩ := Kd.R_slice HO107.out; subst eo8))
   go_loopg [0, 13] k (fun kq v0 v13 w' => ∃ (x0_1 : Int) (x7_1 : List Int) (x13_1 : Int), v0 = .int .i64 x0_1 ∧ v13 = .int .i64 x13_1 ∧ Q9a (field_digitsOf.l0 kq x0_1 a1 x7_1 (y105.length : Int) x13_1 = some r) ∧ Q9a (kq ≤ k) ∧ Q9a (Kd.R (Kd.int .i64) 3 w' w.heap.size (fun _ => True) (.slice Ao8 y105.length co8) x7_1) ∧ Q9a (Below w.heap.size w w'))
   case atStart => exact ⟨(a0), (y105), (0), (by first | rfl | (simp; done) | (simp [*]; done)), (by first | rfl | (simp; done) | (simp [*]; done)), H', ⟨Nat.le_refl _⟩, ⟨by (with_reducible repeat (first | apply Kd.R_alloc | apply Kd.R_drewN | apply Kd.R_drew)); exact HO107.out⟩, ⟨by repeat (first | (with_reducible first | exact HB.out | apply bA | apply bN | apply bD) | exact HB.out)⟩⟩
   case round =>
    clear H'
    try clear p2
    try clear c4
    try clear c4b0
    try clear c4b1
    try clear c5
    try clear c5b0
    try clear c5b1
    try clear c7
    obtain ⟨x0_1, x7_1, x13_1, rfl, rfl, HA, HK1, HO_7, HB⟩ := hrel
    have hl7_1 := (Kd.R_reads' HO_7.out).1
    rw [hl7_1] at HO_7
    (try simp only [hl7_1])
    cases gk with
    | zero => exact absurd HA.out (by simp [field_digitsOf.l0])
    | succ k1 =>
     have H := HA.out
     clear HA
     simp only [field_digitsOf.l0] at H
     by_cases c9 : x13_1 < (y105.length : Int)
     ·rw [if_pos c9] at H
      have c9b0 : decide (x13_1 < (y105.length : Int)) = true := decide_eq_true c9
      (try (have c9b0h := c9b0; rw [hl7_1] at c9b0h))
      clear c9
      by_cases c10 : a1 = 0
      ·rw [if_pos c10] at H
       exact absurd H (by simp)
      ·rw [if_neg c10] at H
       have c10b0 : (a1 == 0) = false := beq_eq_false_iff_ne.mpr c10
       have c10b1 : (a1 != 0) = true := bne_iff_ne.mpr c10
       by_cases c11 : 0 ≤ x13_1
       ·rw [if_pos c11] at H
        have c11b0 : decide (0 ≤ x13_1) = true := decide_eq_true c11
        clear c11
        by_cases c12 : x13_1 < (x7_1.length : Int)
        ·rw [if_pos c12] at H
         have c12b0 : decide (x13_1 < (x7_1.length : Int)) = true := decide_eq_true c12
         (try (have c12b0h := c12b0; rw [hl7_1] at c12b0h))
         clear c12
         obtain ⟨y108, hy108⟩ : ∃ y_ : List Int, y_ = (x7_1.set (x13_1 : Int).toNat (Int.tmod x0_1 a1)) := ⟨_, rfl⟩
         replace H : (field_digitsOf.l0 k1 (wrap64 (Int.tdiv x0_1 a1)) a1 y108 (y105.length : Int) (wrap64 (x13_1 + 1))) = some r := by first | (rw [hy108]; with_reducible exact H) | (have H2_ := (Option.bind_some _ _).symm.trans H; rw [hy108]; with_reducible exact H2_) | (have H2_ := (Option.bind_some _ _).symm.trans H; with_reducible exact H2_) | with_reducible exact H | (rw [hy108]; exact H) | exact H
         have Ny108 := Q9a.mk hy108
         clear hy108
         have H' := Q9a.mk H
         clear H
         have p13 : 0 ≤ (x13_1 : Int) := of_decide_eq_true (by first | (with_reducible assumption) | assumption)
         have q13 : (x13_1 : Int) < ((x7_1.length : Int) : Int) := of_decide_eq_true (by first | (with_reducible assumption) | assumption)
         obtain ⟨go13, co13, eo13, gb13, gl13, cl13, HG13⟩ := Kd.R_form HO_7.out (by omega)
         (first | cases eo13 | (injection eo13 with ea_ en_ ec_; (first | subst ea_ | (injection ea_ with ea_; subst ea_)); subst ec_; clear en_))
         have GB13 := Q9a.mk gb13
         have GG13 := Q9a.mk HG13
         clear gb13 gl13 HG13
         obtain ⟨hx13_0, hf13_0⟩ := Kd.R_celln 0 HO_7.out (x13_1 : Int) p13 q13
         replace p13 := eq_true p13
         replace q13 := eq_true q13
         have HP14 := Kd.R_putg HO_7.out (x13_1 : Int) (Int.tmod x0_1 a1)
         go_wp2_with (first | ((with_reducible refine gate_store (t := 3) (p := 21) rfl ?_); refine store_event (t := 3) (p := 21) (v := ?vo_w15) (w1 := (wr.setCell ⟨go13, (x13_1 : Int).toNat, none⟩ (.int .i64 (Int.tmod x0_1 a1)))) ?hg ?ho ?hn ?hr ?_; (case ho => rfl); (case hg => rfl); (case hn => rfl); (case hr => first | (go_simp; done) | (go_simp; rfl)); intro w15 hw; have hg : wr.grownBy w15 (some go13) := (by rw [hw]; exact HP14.2); have hp_ : Kd.R (Kd.int .i64) 3 w15 w.heap.size (fun _ => True) (.slice (some ⟨go13, 0, none⟩) x7_1.length co8) y108 := (by rw [hw, Ny108.out]; exact HP14.1); clear HP14; have n0_ := Q9a.mk (hp_); have n1_ := Q9a.mk ((by rw [hw]; exact bS (HB.out) GB13.out : Below w.heap.size w w15)); clear HO_7; clear HB; have HO_7 := n0_; have HB := n1_; clear n0_ n1_; clear hg hw hp_))
         (try simp only [← hl7_1])
         go_roundg k1
         case measure => have := HK1.out; omega
         case rel => exact ⟨(wrap64 (Int.tdiv x0_1 a1)), (y108), (wrap64 (x13_1 + 1)), (by first | rfl | (simp; done) | (simp [*]; done)), (by first | rfl | (simp; done) | (simp [*]; done)), H', ⟨by have := HK1.out; omega⟩, ⟨by (try simp only [hl7_1]); (with_reducible repeat (first | apply Kd.R_alloc | apply Kd.R_drewN | apply Kd.R_drew)); exact HO_7.out⟩, ⟨by repeat (first | (with_reducible first | exact HB.out | apply bA | apply bN | apply bD) | exact HB.out)⟩⟩
        ·rw [if_neg c12] at H
         exact absurd H (by simp)
       ·rw [if_neg c11] at H
        exact absurd H (by simp)
     ·rw [if_neg c9] at H
      have c9b0 : decide (x13_1 < (y105.length : Int)) = false := decide_eq_false c9
      (try (have c9b0h := c9b0; rw [hl7_1] at c9b0h))
      clear c9
      obtain rfl := Option.some.inj H
      go_wp2
      go_ret
      exact ⟨_, by first | rfl | (simp [eN, eS] <;> rfl) | (simp [*, eN, eS] <;> rfl), by (with_reducible repeat (first | apply Kd.R_alloc | apply Kd.R_drewN | apply Kd.R_drew)); exact HO_7.out, by repeat (first | (with_reducible first | exact HB.out | apply bA | apply bN | apply bD) | exact HB.out)⟩
  ·rw [if_neg c5] at H
   exact absurd H (by simp)
 ·rw [if_neg c4] at H
  exact absurd H (by simp)
def field_valueOf.l0 : Nat → List Int → Int → Int → Int → Option (Int)
 | 0, _, _, _, _ => none
 | k + 1, x0, x1, x5, x6 => if x6 ≥ 0 then (if 0 ≤ x6 then (if x6 < (x0.length : Int) then (field_valueOf.l0 k x0 x1 (wrap64 ((wrap64 (x5 * x1)) + (rd x0 x6))) (wrap64 (x6 - 1))) else (none)) else (none)) else (some x5)
def field_valueOf.f (k : Nat) (l0 : List Int) (a1 : Int) : Option (Int) := field_valueOf.l0 k l0 a1 0 (wrap64 ((l0.length : Int) - 1))
set_option maxHeartbeats 8000000 in
set_option maxRecDepth 100000 in
theorem field_valueOf.calls (k : Nat) (A0 : Option Addr) (c0 : Nat) (l0 : List Int) (a1 : Int) (r : Int) (w : World) (hr0 : Kd.C (Kd.int .i64) w A0 l0.length l0) (hc0 : l0.length ≤ c0) (h : field_valueOf.f k l0 a1 = some r) :
  Calls Try.prog 72 #[.slice A0 l0.length c0, .int .i64 a1] w fun e w' => e = .returned (.int .i64 r) ∧ Drawn0 w w' := by
 have HR0 := Q9a.mk hr0
 have HC0 := Q9a.mk hc0
 clear hr0 hc0
 have H : (field_valueOf.l0 k l0 a1 0 (wrap64 ((l0.length : Int) - 1))) = some r := h
 clear h
 have H' := Q9a.mk H
 clear H
 go_enter Try.func72, Try.ntmps72
 go_wp2
 go_loopg [5, 6] k (fun kq v5 v6 w' => ∃ (x5_1 : Int) (x6_1 : Int), v5 = .int .i64 x5_1 ∧ v6 = .int .i64 x6_1 ∧ Q9a (field_valueOf.l0 kq l0 a1 x5_1 x6_1 = some r) ∧ Q9a (kq ≤ k) ∧ Drawn0 w w')
 case atStart => exact ⟨(0), (wrap64 ((l0.length : Int) - 1)), (by first | rfl | (simp; done) | (simp [*]; done)), (by first | rfl | (simp; done) | (simp [*]; done)), H', ⟨Nat.le_refl _⟩, by repeat (first | exact Drawn0.refl _ | apply Drawn0.step)⟩
 case round =>
  clear H'
  try clear p2
  obtain ⟨x5_1, x6_1, rfl, rfl, HA, HK1, ⟨m1, rfl⟩⟩ := hrel
  cases gk with
  | zero => exact absurd HA.out (by simp [field_valueOf.l0])
  | succ k1 =>
   have H := HA.out
   clear HA
   simp only [field_valueOf.l0] at H
   by_cases c3 : x6_1 ≥ 0
   ·rw [if_pos c3] at H
    have c3b0 : decide (0 ≤ x6_1) = true := decide_eq_true c3
    clear c3
    by_cases c4 : 0 ≤ x6_1
    ·rw [if_pos c4] at H
     have c4b0 : decide (0 ≤ x6_1) = true := decide_eq_true c4
     clear c4
     by_cases c5 : x6_1 < (l0.length : Int)
     ·rw [if_pos c5] at H
      have c5b0 : decide (x6_1 < (l0.length : Int)) = true := decide_eq_true c5
      clear c5
      have H' := Q9a.mk H
      clear H
      have p109 : 0 ≤ (x6_1 : Int) := of_decide_eq_true (by first | (with_reducible assumption) | assumption)
      have q109 : x6_1 < (l0.length : Int) := of_decide_eq_true (by first | (with_reducible assumption) | assumption)
      obtain ⟨ad109, e109, hx109_0⟩ := Kd.at_int HR0.out x6_1 p109 q109
      cases e109
      replace p109 := eq_true p109
      replace q109 := eq_true q109
      go_wp2
      go_roundg k1
      case measure => have := HK1.out; omega
      case rel => exact ⟨(wrap64 ((wrap64 (x5_1 * a1)) + (rd l0 x6_1))), (wrap64 (x6_1 - 1)), (by first | rfl | (simp; done) | (simp [*]; done)), (by first | rfl | (simp; done) | (simp [*]; done)), H', ⟨by have := HK1.out; omega⟩, by repeat (first | exact Drawn0.refl _ | apply Drawn0.step)⟩
     ·rw [if_neg c5] at H
      exact absurd H (by simp)
    ·rw [if_neg c4] at H
     exact absurd H (by simp)
   ·rw [if_neg c3] at H
    have c3b0 : decide (0 ≤ x6_1) = false := decide_eq_false c3
    clear c3
    obtain rfl := Option.some.inj H
    go_wp2
    go_ret
    exact ⟨by first | rfl | (simp; done) | (simp [*]; done), by repeat (first | exact Drawn0.refl _ | apply Drawn0.step)⟩
end
end Go.Proofs.Ytbohbfggmnjpdaa.P
end
-- GmA
section
namespace Go.Proofs.Ytbohbfggmnjpdaa.Hand
open Go.RowKit Go.Proofs.YtbohbfggmnjpdaaW.PrintWords
def field_GF_Is.f (a0 : GFv) (a1 : Int) : Option (Bool) := some (decide (a0.is a1))
theorem field_GF_Is.calls (b_a0 : Nat) (a0 : GFv) (a1 : Int) (r : Bool) (w : World) (hg0 : GFok w b_a0 a0) (h : field_GF_Is.f a0 a1 = some r) :
  Calls Try.prog 40 #[.pointer (some ⟨b_a0, 0, none⟩), .int .i64 a1] w fun e w' => e = .returned (.bool r) ∧ Below w.heap.size w w' := by
 obtain rfl := Option.some.inj h
 have hf : GS.field_GF_Is.f (a0.F.p : Int) (a0.F.m : Int) a0.mod (a0.q : Int) a0.exp a0.log a1 = some (decide (a0.is a1), (a0.F.p : Int), (a0.F.m : Int), (a0.q : Int)) := by
  unfold GS.field_GF_Is.f Cw.GFv.is
  by_cases h : 0 ≤ a1
  ·rw [if_pos h]; simp [h]
  ·rw [if_neg h]; simp [h]
 exact (GS.field_GF_Is.calls b_a0 _ _ _ _ _ _ a1 _ _ _ _ w w hg0.isS (Below.refl _ _) hf).mono fun e w' h => ⟨h.1, h.2.2.1⟩
theorem gs_add_loop (G : GFv) (n : Nat) : ∀ (x y s t : Nat), x < G.F.p ^ n → y < G.F.p ^ n → t * G.F.p ^ n ≤ 65536 → s < t →
  Ev (fun k => GS.field_GF_Add.l0 k (x : Int) (y : Int) (s : Int) (t : Int) (G.F.p : Int) (G.F.m : Int) G.mod (G.q : Int) G.exp G.log) ((s + t * Cw.addc G.F.p n x y : Nat), (G.F.p : Int), (G.F.m : Int), (G.q : Int)) := by
 have hp := G.p_ge
 have hq := G.q_le
 have hpq := G.p_le
 induction n with
 | zero =>
  intro x y s t hx hy hs ht
  rw [Nat.pow_zero] at hx hy
  obtain rfl : x = 0 := by omega
  obtain rfl : y = 0 := by omega
  refine Ev.step (f := fun _ => _) (fun k => by simp only [GS.field_GF_Add.l0]; rw [if_neg (by omega), if_neg (by omega)]) ?_
  simp only [Cw.addc, Nat.mul_zero, Nat.add_zero]
  exact Ev.now _
 | succ n ih =>
  intro x y s t hx hy hs ht
  by_cases h0 : x = 0 ∧ y = 0
  ·obtain ⟨rfl, rfl⟩ := h0
   refine Ev.step (f := fun _ => _) (fun k => by simp only [GS.field_GF_Add.l0]; rw [if_neg (by omega), if_neg (by omega)]) ?_
   rw [Cw.addc_zero, Nat.mul_zero, Nat.add_zero]
   exact Ev.now _
  ·have hpow : 1 ≤ G.F.p ^ n := Nat.one_le_pow _ _ (by omega)
   have e1 : t * G.F.p ^ (n + 1) = t * G.F.p * G.F.p ^ n := by rw [Nat.pow_succ]; ac_rfl
   have e2 : t * G.F.p * 1 ≤ t * G.F.p * G.F.p ^ n := Nat.mul_le_mul_left _ hpow
   have e3 : t * 2 ≤ t * G.F.p := Nat.mul_le_mul_left _ hp
   have hm := Nat.mod_lt (x % G.F.p + y % G.F.p) (show 0 < G.F.p by omega)
   have hmx := Nat.mod_lt x (show 0 < G.F.p by omega)
   have hmy := Nat.mod_lt y (show 0 < G.F.p by omega)
   have e4 : (x % G.F.p + y % G.F.p) % G.F.p * t ≤ (G.F.p - 1) * t := Nat.mul_le_mul_right _ (by omega)
   have e5 : (G.F.p - 1) * t + t = t * G.F.p := by
    rw [← Nat.succ_mul, show (G.F.p - 1).succ = G.F.p from by omega, Nat.mul_comm]
   have hxp : x / G.F.p ≤ x := Nat.div_le_self _ _
   have hyp : y / G.F.p ≤ y := Nat.div_le_self _ _
   have hxb : x < 65536 := by
    have : G.F.p ^ (n + 1) ≤ t * G.F.p ^ (n + 1) := Nat.le_mul_of_pos_left _ (by omega)
    omega
   have hyb : y < 65536 := by
    have : G.F.p ^ (n + 1) ≤ t * G.F.p ^ (n + 1) := Nat.le_mul_of_pos_left _ (by omega)
    omega
   have key : ∀ k, GS.field_GF_Add.l0 (k + 1) (x : Int) (y : Int) (s : Int) (t : Int) (G.F.p : Int) (G.F.m : Int) G.mod (G.q : Int) G.exp G.log
     = GS.field_GF_Add.l0 k ((x / G.F.p : Nat) : Int) ((y / G.F.p : Nat) : Int) ((s + (x % G.F.p + y % G.F.p) % G.F.p * t : Nat) : Int) ((t * G.F.p : Nat) : Int) (G.F.p : Int) (G.F.m : Int) G.mod (G.q : Int) G.exp G.log := by
    intro k
    have hnext : wrap64 (Int.tdiv (x : Int) (G.F.p : Int)) = ((x / G.F.p : Nat) : Int) ∧ wrap64 (Int.tdiv (y : Int) (G.F.p : Int)) = ((y / G.F.p : Nat) : Int)
      ∧ wrap64 ((s : Int) + wrap64 (Int.tmod (wrap64 (Int.tmod (x : Int) (G.F.p : Int) + Int.tmod (y : Int) (G.F.p : Int))) (G.F.p : Int) * (t : Int))) = ((s + (x % G.F.p + y % G.F.p) % G.F.p * t : Nat) : Int)
      ∧ wrap64 ((t : Int) * (G.F.p : Int)) = ((t * G.F.p : Nat) : Int) := by
     refine ⟨?_, ?_, ?_, ?_⟩
     ·rw [Cw.tdiv_nat, w64n _ (by omega)]
     ·rw [Cw.tdiv_nat, w64n _ (by omega)]
     ·rw [Cw.tmod_nat, Cw.tmod_nat, ← Int.natCast_add, w64n _ (by omega), Cw.tmod_nat, ← Int.natCast_mul, w64n _ (by omega), ← Int.natCast_add, w64n _ (by omega)]
     ·rw [← Int.natCast_mul, w64n _ (by omega)]
    obtain ⟨n1, n2, n3, n4⟩ := hnext
    simp only [GS.field_GF_Add.l0]
    rw [n1, n2, n3, n4]
    by_cases hx0 : (x : Int) > 0
    ·rw [if_pos hx0, if_neg (by omega)]
    ·rw [if_neg hx0, if_pos (by omega), if_neg (by omega)]
   refine Ev.step key ?_
   have := ih (x / G.F.p) (y / G.F.p) (s + (x % G.F.p + y % G.F.p) % G.F.p * t) (t * G.F.p) (Cw.div_lt_pow (by omega) hx) (Cw.div_lt_pow (by omega) hy) (by rw [e1] at hs; exact hs) (by omega)
   rw [show s + t * Cw.addc G.F.p (n + 1) x y = s + (x % G.F.p + y % G.F.p) % G.F.p * t + t * G.F.p * Cw.addc G.F.p n (x / G.F.p) (y / G.F.p) from by
    rw [Cw.addc, Nat.mul_add, Nat.add_assoc]; congr 2
    ·rw [Nat.mul_comm]
    ·rw [Nat.mul_assoc]]
   exact this
theorem xor_bits (a b : Nat) (ha : a < 2 ^ 62) (hb : b < 2 ^ 62) : Go.bits .xor .i64 (a : Int) (b : Int) = ((a ^^^ b : Nat) : Int) := by
 have hx := Nat.xor_lt_two_pow ha hb
 have ha' : a % 2 ^ 64 = a := Nat.mod_eq_of_lt (by omega)
 have hb' : b % 2 ^ 64 = b := Nat.mod_eq_of_lt (by omega)
 have e : ∀ x y : BitVec 64, x = BitVec.ofNat 64 a → y = BitVec.ofNat 64 b → (x ^^^ y).toNat = a ^^^ b := by
  intro x y hx hy
  rw [hx, hy, BitVec.toNat_xor, BitVec.toNat_ofNat, BitVec.toNat_ofNat, ha', hb']
 have e2 := e (BitVec.ofInt 64 (a : Int)) (BitVec.ofInt 64 (b : Int)) (BitVec.ofInt_natCast 64 a) (BitVec.ofInt_natCast 64 b)
 show IntKind.i64.wrap (((BitVec.ofInt 64 (a : Int) ^^^ BitVec.ofInt 64 (b : Int)).toNat : Nat) : Int) = _
 rw [e2, IntKind.wrap_i64]
 omega
theorem gs_add (G : GFv) (x y : Int) : Ev (fun k => GS.field_GF_Add.f k (G.F.p : Int) (G.F.m : Int) G.mod (G.q : Int) G.exp G.log x y) (G.add x y, (G.F.p : Int), (G.F.m : Int), (G.q : Int)) := by
 obtain ⟨a, ha, haq, hac⟩ := inn_nat G x
 obtain ⟨b, hb, hbq, hbc⟩ := inn_nat G y
 have hq := G.q_le
 have hadd : G.add x y = ((Cw.addc G.F.p G.F.m a b : Nat) : Int) := by
  unfold Cw.GFv.add Cw.GFv.num; rw [Cw.El.code_add, hac, hbc]
 rw [hadd]
 by_cases h2 : (G.F.p : Int) = 2
 ·refine Ev.congr (f := fun _ => some (((Cw.addc G.F.p G.F.m a b : Nat) : Int), (G.F.p : Int), (G.F.m : Int), (G.q : Int))) (fun k => ?_) (Ev.now _)
  unfold GS.field_GF_Add.f
  rw [gs_in]; simp only [Option.bind_some]; rw [gs_in]; simp only [Option.bind_some]
  rw [if_pos h2, ha, hb, xor_bits a b (by omega) (by omega)]
  have hp2 : G.F.p = 2 := by omega
  have hqq : G.q = 2 ^ G.F.m := by unfold Cw.GFv.q; rw [hp2]
  rw [hp2, Cw.addc_two _ _ _ (by omega) (by omega)]
 ·have hl := gs_add_loop G G.F.m a b 0 1 haq hbq (by show 1 * G.q ≤ _; omega) (by omega)
  rw [Nat.zero_add, Nat.one_mul] at hl
  refine Ev.congr (fun k => ?_) hl
  unfold GS.field_GF_Add.f
  rw [gs_in]; simp only [Option.bind_some]; rw [gs_in]; simp only [Option.bind_some]
  rw [if_neg h2, ha, hb]
  rfl
def field_GF_Add.f (a0 : GFv) (a1 : Int) (a2 : Int) : Option (Int) := some (a0.add a1 a2)
theorem field_GF_Add.calls (b_a0 : Nat) (a0 : GFv) (a1 : Int) (a2 : Int) (r : Int) (w : World) (hg0 : GFok w b_a0 a0) (h : field_GF_Add.f a0 a1 a2 = some r) :
  Calls Try.prog 56 #[.pointer (some ⟨b_a0, 0, none⟩), .int .i64 a1, .int .i64 a2] w fun e w' => e = .returned (.int .i64 r) ∧ Below w.heap.size w w' := by
 obtain rfl := Option.some.inj h
 obtain ⟨k, hk⟩ := (gs_add a0 a1 a2).rounds
 exact (GS.field_GF_Add.calls k b_a0 _ _ _ _ _ _ a1 a2 _ _ _ _ w w hg0.isS (Below.refl _ _) hk).mono fun e w' h => ⟨h.1, h.2.2.1⟩
theorem gs_mul (G : GFv) (x y : Int) : GS.field_GF_Mul.f (G.F.p : Int) (G.F.m : Int) G.mod (G.q : Int) G.exp G.log x y = some (G.mul x y, (G.F.p : Int), (G.F.m : Int), (G.q : Int)) := by
 have hq := G.q_le
 have hq2 := G.q_ge
 unfold GS.field_GF_Mul.f
 rw [gs_in]; simp only [Option.bind_some]; rw [gs_in]; simp only [Option.bind_some]
 by_cases hx : G.inn x = 0
 ·have hm : G.mul x y = 0 := by
   unfold Cw.GFv.mul; rw [G.el_eq_zero.2 hx, Cw.zero_mul, G.num_zero]
  rw [if_pos hx, hm]
 by_cases hy : G.inn y = 0
 ·have hm : G.mul x y = 0 := by
   unfold Cw.GFv.mul; rw [G.el_eq_zero.2 hy, Cw.mul_zero, G.num_zero]
  rw [if_neg hx, if_pos hy, hm]
 have hxe : G.el x ≠ 0 := fun h => hx (G.el_eq_zero.1 h)
 have hye : G.el y ≠ 0 := fun h => hy (G.el_eq_zero.1 h)
 have ix := G.inn_is x
 have iy := G.inn_is y
 have lx := G.lg_spec hxe
 have ly := G.lg_spec hye
 have hlog := log_len G
 have hexp := exp_len G
 rw [rd_log G ix, rd_log G iy, G.el_inn, G.el_inn, w64 (n := (G.q : Int) - 1) (by omega) (by omega), ← Int.natCast_add, w64n _ (by omega),
  show (G.q : Int) - 1 = ((G.q - 1 : Nat) : Int) from by omega, Cw.tmod_nat]
 have hlt := Nat.mod_lt (G.lg (G.el x) + G.lg (G.el y)) (show 0 < G.q - 1 by omega)
 rw [if_neg hx, if_neg hy, if_pos ix.1, if_pos (by rw [hlog]; exact ix.2), if_pos iy.1, if_pos (by rw [hlog]; exact iy.2), if_neg (by omega), if_pos (by omega), if_pos (by omega), rd_exp G hlt]
 unfold Cw.GFv.mul
 rw [G.pw_mod, Cw.pw_add, lx.2, ly.2]
def field_GF_Mul.f (a0 : GFv) (a1 : Int) (a2 : Int) : Option (Int) := some (a0.mul a1 a2)
theorem field_GF_Mul.calls (b_a0 : Nat) (a0 : GFv) (a1 : Int) (a2 : Int) (r : Int) (w : World) (hg0 : GFok w b_a0 a0) (h : field_GF_Mul.f a0 a1 a2 = some r) :
  Calls Try.prog 48 #[.pointer (some ⟨b_a0, 0, none⟩), .int .i64 a1, .int .i64 a2] w fun e w' => e = .returned (.int .i64 r) ∧ Below w.heap.size w w' := by
 obtain rfl := Option.some.inj h
 exact (GS.field_GF_Mul.calls b_a0 _ _ _ _ _ _ a1 a2 _ _ _ _ w w hg0.isS (Below.refl _ _) (gs_mul a0 a1 a2)).mono fun e w' h => ⟨h.1, h.2.2.1⟩
theorem tmod_norm (n : Int) (k : Nat) (hk : 0 < k) : Int.tmod (Int.tmod n k + k) k = n % (k : Int) := by
 have h1 := Int.tmod_lt_of_pos n (show (0 : Int) < (k : Int) by omega)
 have h2 := Int.lt_tmod_of_pos n (show (0 : Int) < (k : Int) by omega)
 rw [Int.tmod_eq_emod_of_nonneg (by omega)]
 have h3 := Int.tmod_add_mul_tdiv n (k : Int)
 conv => rhs; rw [← h3]
 rw [Int.add_mul_emod_self_left, Int.add_emod_right]
theorem gs_pow (G : GFv) (x n : Int) : ∀ k, GS.field_GF_Pow.f (k + 1) (G.F.p : Int) (G.F.m : Int) G.mod (G.q : Int) G.exp G.log x n = some ((G.pow x n).1, (G.pow x n).2, (G.F.p : Int), (G.F.m : Int), (G.q : Int)) := by
 intro k
 have hq := G.q_le
 have hq2 := G.q_ge
 unfold GS.field_GF_Pow.f
 rw [gs_in]; simp only [Option.bind_some]
 unfold Cw.GFv.pow
 by_cases hn : n = 0
 ·rw [if_pos hn, if_pos hn]
 rw [if_neg hn, if_neg hn]
 by_cases hx : G.inn x = 0
 ·rw [if_pos hx, if_pos (G.el_eq_zero.2 hx)]
  simp only [GS.field_GF_Pow.j0]
  by_cases hneg : n < 0
  ·rw [if_pos (by simpa using hneg), if_pos hneg]
  ·rw [if_neg (by simpa using hneg), if_pos hx, if_neg hneg]
 ·have hxe : G.el x ≠ 0 := fun h => hx (G.el_eq_zero.1 h)
  rw [if_neg hx, if_neg hxe]
  simp only [GS.field_GF_Pow.j0]
  have ix := G.inn_is x
  have lx := G.lg_spec hxe
  have hlog := log_len G
  have hexp := exp_len G
  have hk : 0 < G.q - 1 := by omega
  have b1 := Int.tmod_lt_of_pos n (show (0 : Int) < ((G.q - 1 : Nat) : Int) by omega)
  have b2 := Int.lt_tmod_of_pos n (show (0 : Int) < ((G.q - 1 : Nat) : Int) by omega)
  have b3 := Int.emod_nonneg n (show ((G.q - 1 : Nat) : Int) ≠ 0 by omega)
  have b4 := Int.emod_lt_of_pos n (show (0 : Int) < ((G.q - 1 : Nat) : Int) by omega)
  rw [w64 (n := (G.q : Int) - 1) (by omega) (by omega), show (G.q : Int) - 1 = ((G.q - 1 : Nat) : Int) from by omega, w64 (n := Int.tmod n _ + _) (by omega) (by omega), tmod_norm n _ hk, rd_log G ix, G.el_inn]
  obtain ⟨j, hj⟩ : ∃ j : Nat, n % ((G.q - 1 : Nat) : Int) = (j : Int) := ⟨(n % ((G.q - 1 : Nat) : Int)).toNat, by omega⟩
  rw [hj] at b4 ⊢
  have hb : G.lg (G.el x) * j ≤ 256 * 256 := Nat.mul_le_mul (by omega) (by omega)
  have hlt := Nat.mod_lt (G.lg (G.el x) * j) hk
  rw [← Int.natCast_mul, w64n _ (by omega), Cw.tmod_nat, if_neg (by simp), if_neg hx, if_neg (by omega), if_pos ix.1, if_pos (by rw [hlog]; exact ix.2), if_pos (by omega), if_pos (by omega), rd_exp G hlt, Int.toNat_natCast, G.pw_mod, Cw.pw_mul, lx.2]
def field_GF_Pow.f (a0 : GFv) (a1 : Int) (a2 : Int) : Option (Int × Int) := some (a0.pow a1 a2)
theorem field_GF_Pow.calls (b_a0 : Nat) (a0 : GFv) (a1 : Int) (a2 : Int) (r1 : Int) (r2 : Int) (w : World) (hg0 : GFok w b_a0 a0) (h : field_GF_Pow.f a0 a1 a2 = some (r1, r2)) :
  Calls Try.prog 16 #[.pointer (some ⟨b_a0, 0, none⟩), .int .i64 a1, .int .i64 a2] w fun e w' => e = .returned (.tuple #[.int .i64 r1, .int .i64 r2]) ∧ Below w.heap.size w w' := by
 have h' := Option.some.inj h
 obtain ⟨rfl, rfl⟩ : (a0.pow a1 a2).1 = r1 ∧ (a0.pow a1 a2).2 = r2 := by rw [h']; exact ⟨rfl, rfl⟩
 exact (GS.field_GF_Pow.calls 1 b_a0 _ _ _ _ _ _ a1 a2 _ _ _ _ _ w w hg0.isS (Below.refl _ _) (gs_pow a0 a1 a2 0)).mono fun e w' h => ⟨h.1, h.2.2.1⟩
end Go.Proofs.Ytbohbfggmnjpdaa.Hand
end
-- D1
section
namespace Go.Proofs.Ytbohbfggmnjpdaa.Pl
open Go.RowKit Go.Proofs.Ytbohbfggmnjpdaa.P Go.Proofs.YtbohbfggmnjpdaaW.PrintWords
theorem w64 {n : Int} (h0 : -9223372036854775808 ≤ n) (h1 : n < 9223372036854775808) : wrap64 n = n := by
 unfold wrap64; omega
theorem w64n (n : Nat) (h : n < 9223372036854775808) : wrap64 (n : Int) = n := w64 (by omega) (by omega)
def ordV (P M : Int) : Int := if 2 ≤ P ∧ 1 ≤ M ∧ M ≤ 8 ∧ P.toNat ^ M.toNat ≤ 256 then ((P.toNat ^ M.toNat : Nat) : Int) else 0
theorem pow_le_of {p i m : Nat} (hp : 2 ≤ p) (h : i ≤ m) : p ^ i ≤ p ^ m := Nat.pow_le_pow_right (by omega) h
theorem order_loop (p m : Nat) (hp : 2 ≤ p) (hp2 : p ≤ 256) (hm : m ≤ 8) : ∀ d i, i + d = m → p ^ i ≤ 256 → Ev (fun k => field_order.l0 k (p : Int) ((p ^ i : Nat) : Int) (m : Int) (i : Int)) (if p ^ m ≤ 256 then ((p ^ m : Nat) : Int) else 0) := by
 intro d
 induction d with
 | zero =>
  intro i hi hle
  obtain rfl : i = m := by omega
  rw [if_pos hle]
  refine Ev.step (f := fun _ => some _) (fun k => ?_) (Ev.now _)
  simp only [field_order.l0]
  rw [if_neg (by omega)]
 | succ d ih =>
  intro i hi hle
  have hb : p ^ i * p ≤ 256 * 256 := Nat.mul_le_mul hle hp2
  have hw : wrap64 (((p ^ i : Nat) : Int) * (p : Int)) = ((p ^ (i + 1) : Nat) : Int) := by
   rw [← Int.natCast_mul, ← Nat.pow_succ]
   exact w64n _ (by rw [Nat.pow_succ]; omega)
  have hw2 : wrap64 ((i : Int) + 1) = ((i + 1 : Nat) : Int) := by rw [w64 (by omega) (by omega)]; rfl
  by_cases hc : p ^ (i + 1) ≤ 256
  ·refine Ev.step (fun k => ?_) (ih (i + 1) (by omega) hc)
   simp only [field_order.l0]
   rw [if_pos (by omega), hw, hw2, if_neg (by omega)]
  ·have hmm : ¬ p ^ m ≤ 256 := fun h => hc (Nat.le_trans (pow_le_of hp (by omega)) h)
   rw [if_neg hmm]
   refine Ev.step (f := fun _ => some _) (fun k => ?_) (Ev.now _)
   simp only [field_order.l0]
   rw [if_pos (by omega), hw, if_pos (by omega)]
theorem order_ev (P M : Int) : Ev (fun k => field_order.f k P M) (ordV P M) := by
 have zero : ordV P M = 0 → Ev (fun k => field_order.j0 k P M true) (ordV P M) := by
  intro h
  rw [h]
  refine Ev.step (f := fun _ => some _) (fun k => ?_) (Ev.now _)
  simp only [field_order.j0]
  rfl
 by_cases h1 : P < 2
 ·refine Ev.congr (fun k => ?_) (zero (by unfold ordV; rw [if_neg (by omega)]))
  unfold field_order.f
  rw [if_pos h1]
 by_cases h2 : P > 256
 ·refine Ev.congr (fun k => ?_) (zero ?_)
  ·unfold field_order.f
   rw [if_neg h1, if_pos h2]
  ·unfold ordV
   rw [if_neg]
   rintro ⟨a, b, c, d⟩
   have := pow_le_of (p := P.toNat) (i := 1) (m := M.toNat) (by omega) (by omega)
   rw [Nat.pow_one] at this
   omega
 by_cases h3 : M < 1
 ·refine Ev.congr (fun k => ?_) (zero (by unfold ordV; rw [if_neg (by omega)]))
  unfold field_order.f
  rw [if_neg h1, if_neg h2, if_pos h3]
 by_cases h4 : M > 8
 ·refine Ev.congr (fun k => ?_) (zero (by unfold ordV; rw [if_neg (by omega)]))
  unfold field_order.f
  rw [if_neg h1, if_neg h2, if_neg h3, decide_eq_true h4]
 obtain ⟨p, rfl⟩ := Int.eq_ofNat_of_zero_le (show 0 ≤ P by omega)
 obtain ⟨m, rfl⟩ := Int.eq_ofNat_of_zero_le (show 0 ≤ M by omega)
 have hl := order_loop p m (by omega) (by omega) (by omega) m 0 (by omega) (by simp)
 have e : (if p ^ m ≤ 256 then ((p ^ m : Nat) : Int) else 0) = ordV p m := by
  unfold ordV
  simp only [Int.toNat_natCast]
  by_cases hc : p ^ m ≤ 256
  ·rw [if_pos hc, if_pos ⟨by omega, by omega, by omega, hc⟩]
  ·rw [if_neg hc, if_neg (fun h => hc h.2.2.2)]
 rw [e] at hl
 refine Ev.congr (f := fun k => field_order.j0 k (p : Int) (m : Int) false) (fun k => ?_) ?_
 ·unfold field_order.f
  rw [if_neg h1, if_neg h2, if_neg h3, decide_eq_false h4]
 ·refine Ev.step (fun k => ?_) hl
  simp only [field_order.j0]
  rw [if_neg (by simp)]
  rfl
theorem order04_loop (p m : Nat) (hp : 2 ≤ p) (hm : m ≤ 8) (l : List Int) (hpw : (p : Int) < 9223372036854775808) : ∀ d i, i + d = m → p ^ i ≤ 256 → Ev (fun k => r4Order.l0 k ((p ^ i : Nat) : Int) (i : Int) (p : Int) (m : Int) l) (if p ^ m ≤ 256 then ((p ^ m : Nat) : Int) else 0) := by
 intro d
 induction d with
 | zero =>
  intro i hi hle
  obtain rfl : i = m := by omega
  rw [if_pos hle]
  refine Ev.step (f := fun _ => some _) (fun k => ?_) (Ev.now _)
  simp only [r4Order.l0]
  rw [if_neg (by omega)]
 | succ d ih =>
  intro i hi hle
  have hd : wrap64 (Int.tdiv 256 (p : Int)) = ((256 / p : Nat) : Int) := by
   rw [show (256 : Int) = ((256 : Nat) : Int) from rfl, Cw.tdiv_nat]
   exact w64n _ (by have := Nat.div_le_self 256 p; omega)
  have hw2 : wrap64 ((i : Int) + 1) = ((i + 1 : Nat) : Int) := by rw [w64 (by omega) (by omega)]; rfl
  have hiff : p ^ (i + 1) ≤ 256 ↔ p ^ i ≤ 256 / p := by
   rw [Nat.le_div_iff_mul_le (by omega), Nat.pow_succ]
  by_cases hc : p ^ (i + 1) ≤ 256
  ·have hw : wrap64 (((p ^ i : Nat) : Int) * (p : Int)) = ((p ^ (i + 1) : Nat) : Int) := by
    rw [← Int.natCast_mul, ← Nat.pow_succ]
    exact w64n _ (Nat.lt_of_le_of_lt hc (by omega))
   refine Ev.step (fun k => ?_) (ih (i + 1) (by omega) hc)
   have := hiff.1 hc
   simp only [r4Order.l0]
   rw [if_pos (by omega), if_neg (by omega), hd, if_neg (by omega), hw, hw2]
  ·have hmm : ¬ p ^ m ≤ 256 := fun h => hc (Nat.le_trans (pow_le_of hp (by omega)) h)
   have : ¬ p ^ i ≤ 256 / p := fun h => hc (hiff.2 h)
   rw [if_neg hmm]
   refine Ev.step (f := fun _ => some _) (fun k => ?_) (Ev.now _)
   simp only [r4Order.l0]
   rw [if_pos (by omega), if_neg (by omega), hd, if_pos (by omega)]
theorem order04_ev (P M : Int) (l : List Int) (hP : P < 9223372036854775808) : Ev (fun k => r4Order.f k P M l) (ordV P M) := by
 have zero : ordV P M = 0 → Ev (fun k => r4Order.j0 k true P M l) (ordV P M) := by
  intro h
  rw [h]
  refine Ev.step (f := fun _ => some _) (fun k => ?_) (Ev.now _)
  simp only [r4Order.j0]
  rfl
 by_cases h1 : P < 2
 ·refine Ev.congr (fun k => ?_) (zero (by unfold ordV; rw [if_neg (by omega)]))
  unfold r4Order.f
  rw [if_pos h1]
 by_cases h3 : M < 1
 ·refine Ev.congr (fun k => ?_) (zero (by unfold ordV; rw [if_neg (by omega)]))
  unfold r4Order.f
  rw [if_neg h1, if_pos h3]
 by_cases h4 : M > 8
 ·refine Ev.congr (fun k => ?_) (zero (by unfold ordV; rw [if_neg (by omega)]))
  unfold r4Order.f
  rw [if_neg h1, if_neg h3, decide_eq_true h4]
 obtain ⟨p, rfl⟩ := Int.eq_ofNat_of_zero_le (show 0 ≤ P by omega)
 obtain ⟨m, rfl⟩ := Int.eq_ofNat_of_zero_le (show 0 ≤ M by omega)
 have hl := order04_loop p m (by omega) (by omega) l hP m 0 (by omega) (by simp)
 have e : (if p ^ m ≤ 256 then ((p ^ m : Nat) : Int) else 0) = ordV p m := by
  unfold ordV
  simp only [Int.toNat_natCast]
  by_cases hc : p ^ m ≤ 256
  ·rw [if_pos hc, if_pos ⟨by omega, by omega, by omega, hc⟩]
  ·rw [if_neg hc, if_neg (fun h => hc h.2.2.2)]
 rw [e] at hl
 refine Ev.congr (f := fun k => r4Order.j0 k false (p : Int) (m : Int) l) (fun k => ?_) ?_
 ·unfold r4Order.f
  rw [if_neg h1, if_neg h3, decide_eq_false h4]
 ·refine Ev.step (fun k => ?_) hl
  simp only [r4Order.j0]
  rw [if_neg (by simp)]
  rfl
theorem ordV_pos {P M : Int} (h : ordV P M ≠ 0) : ∃ p m : Nat, P = p ∧ M = m ∧ 2 ≤ p ∧ p ≤ 256 ∧ 1 ≤ m ∧ m ≤ 8 ∧ p ^ m ≤ 256 ∧ ordV P M = ((p ^ m : Nat) : Int) := by
 unfold ordV at h ⊢
 by_cases hc : 2 ≤ P ∧ 1 ≤ M ∧ M ≤ 8 ∧ P.toNat ^ M.toNat ≤ 256
 ·rw [if_pos hc]
  have := pow_le_of (p := P.toNat) (i := 1) (m := M.toNat) (by omega) (by omega)
  rw [Nat.pow_one] at this
  exact ⟨P.toNat, M.toNat, by omega, by omega, by omega, by omega, by omega, by omega, hc.2.2.2, rfl⟩
 ·rw [if_neg hc] at h
  exact absurd rfl h
open Classical in
theorem prime_none {n d : Nat} (h : ∀ e, 2 ≤ e → e < d → ¬ e ∣ n) (hn : 2 ≤ n) (hd : n < d * d) : Cw.Prm n := by
 refine ⟨hn, fun e he => ?_⟩
 obtain ⟨f, hf⟩ := he
 by_cases h1 : e = 1
 ·exact Or.inl h1
 by_cases h2 : e = n
 ·exact Or.inr h2
 exfalso
 have e0 : e ≠ 0 := by rintro rfl; omega
 have f0 : f ≠ 0 := by rintro rfl; omega
 have f1 : f ≠ 1 := by rintro rfl; omega
 have a := h e (by omega)
 have b := h f (by omega)
 have ha : d ≤ e := by
  by_cases hh : d ≤ e
  ·exact hh
  ·exact absurd ⟨f, hf⟩ (a (by omega))
 have hb : d ≤ f := by
  by_cases hh : d ≤ f
  ·exact hh
  ·exact absurd ⟨e, by rw [hf, Nat.mul_comm]⟩ (b (by omega))
 have := Nat.mul_le_mul ha hb
 omega
theorem not_prm {n d : Nat} (hd : 2 ≤ d) (hn : d < n) (h : d ∣ n) : ¬ Cw.Prm n := fun hp => by
 rcases hp.2 d h with h | h <;> omega
open Classical in
theorem isPrime_loop (n : Nat) (hn : n ≤ 65536) (hn2 : 2 ≤ n) : ∀ g d, d + g = 300 → 2 ≤ d → (∀ e, 2 ≤ e → e < d → ¬ e ∣ n) → Ev (fun k => field_isPrime.l0 k (n : Int) (d : Int)) (decide (Cw.Prm n)) := by
 intro g
 induction g with
 | zero =>
  intro d hd h2 h
  obtain rfl : d = 300 := by omega
  refine Ev.step (f := fun _ => some _) (fun k => ?_) (Ev.now _)
  simp only [field_isPrime.l0]
  rw [w64 (by omega) (by omega), if_neg (by omega), decide_eq_true (prime_none h hn2 (by omega)), decide_eq_true (by omega)]
 | succ g ih =>
  intro d hd h2 h
  have hdd : d * d ≤ 300 * 300 := Nat.mul_le_mul (by omega) (by omega)
  have hw : wrap64 ((d : Int) * (d : Int)) = ((d * d : Nat) : Int) := by
   rw [← Int.natCast_mul]
   exact w64n _ (by omega)
  by_cases hc : d * d ≤ n
  ·by_cases hdv : d ∣ n
   ·have hlt : d < n := by
     have : 2 * d ≤ d * d := Nat.mul_le_mul_right _ h2
     omega
    refine Ev.step (f := fun _ => some _) (fun k => ?_) (Ev.now _)
    simp only [field_isPrime.l0]
    rw [hw, if_pos (by omega), if_neg (by omega), Cw.tmod_nat, Nat.mod_eq_zero_of_dvd hdv, if_pos (by rfl), decide_eq_false (not_prm h2 hlt hdv)]
   ·refine Ev.step (fun k => ?_) (ih (d + 1) (by omega) (by omega) (fun e he hlt => by
     by_cases hh : e = d
     ·rw [hh]; exact hdv
     ·exact h e he (by omega)))
    simp only [field_isPrime.l0]
    have : n % d ≠ 0 := fun h0 => hdv (Nat.dvd_of_mod_eq_zero h0)
    rw [hw, if_pos (by omega), if_neg (by omega), Cw.tmod_nat, if_neg (by omega), w64 (by omega) (by omega)]
    rfl
  ·refine Ev.step (f := fun _ => some _) (fun k => ?_) (Ev.now _)
   simp only [field_isPrime.l0]
   rw [hw, if_neg (by omega), decide_eq_true (prime_none h hn2 (by omega)), decide_eq_true (by omega)]
open Classical in
theorem isPrime_ev (n : Nat) (hn : n ≤ 65536) (hn2 : 2 ≤ n) : Ev (fun k => field_isPrime.f k (n : Int)) (decide (Cw.Prm n)) :=
 isPrime_loop n hn hn2 298 2 rfl (by omega) (fun e h1 h2 => by omega)
open Classical in
theorem prime04_loop (n : Nat) (hn : n ≤ 65536) (hn2 : 2 ≤ n) : ∀ g d, d + g = n → 2 ≤ d → (∀ e, 2 ≤ e → e < d → ¬ e ∣ n) → Ev (fun k => r4prime.l0 k (n : Int) (d : Int)) (decide (Cw.Prm n)) := by
 intro g
 induction g with
 | zero =>
  intro d hd h2 h
  obtain rfl : d = n := by omega
  refine Ev.step (f := fun _ => some _) (fun k => ?_) (Ev.now _)
  simp only [r4prime.l0]
  have : 2 * d ≤ d * d := Nat.mul_le_mul_right _ h2
  rw [if_neg (by omega), decide_eq_true (prime_none h hn2 (by omega))]
 | succ g ih =>
  intro d hd h2 h
  by_cases hdv : d ∣ n
  ·refine Ev.step (f := fun _ => some _) (fun k => ?_) (Ev.now _)
   simp only [r4prime.l0]
   rw [if_pos (by omega), if_neg (by omega), Cw.tmod_nat, Nat.mod_eq_zero_of_dvd hdv, if_pos (by rfl), decide_eq_false (not_prm h2 (by omega) hdv)]
  ·refine Ev.step (fun k => ?_) (ih (d + 1) (by omega) (by omega) (fun e he hlt => by
    by_cases hh : e = d
    ·rw [hh]; exact hdv
    ·exact h e he (by omega)))
   simp only [r4prime.l0]
   have : n % d ≠ 0 := fun h0 => hdv (Nat.dvd_of_mod_eq_zero h0)
   rw [if_pos (by omega), if_neg (by omega), Cw.tmod_nat, if_neg (by omega), w64 (by omega) (by omega)]
   rfl
open Classical in
theorem prime04_ev (n : Nat) (hn : n ≤ 65536) (hn2 : 2 ≤ n) : Ev (fun k => r4prime.f k (n : Int)) (decide (Cw.Prm n)) := by
 obtain ⟨g, hg⟩ := Nat.le.dest hn2
 exact prime04_loop n hn hn2 g 2 hg (by omega) (fun e h1 h2 => by omega)
end Go.Proofs.Ytbohbfggmnjpdaa.Pl
end
-- D2
section
namespace Go.Proofs.Ytbohbfggmnjpdaa.Pl
open Go.RowKit Go.Proofs.Ytbohbfggmnjpdaa.P Go.Proofs.YtbohbfggmnjpdaaW.PrintWords
def ints (l : List Nat) : List Int := l.map (fun a : Nat => (a : Int))
theorem ints_length (l : List Nat) : (ints l).length = l.length := by simp [ints]
theorem ints_append (a b : List Nat) : ints (a ++ b) = ints a ++ ints b := by simp [ints]
theorem ints_cons (a : Nat) (b : List Nat) : ints (a :: b) = (a : Int) :: ints b := rfl
theorem ints_zero (d : Nat) : List.replicate d (0 : Int) = ints (List.replicate d 0) := by simp [ints]
theorem rd_at {a b : List Int} {x : Int} {i : Int} (h : i = (a.length : Int)) : rd (a ++ x :: b) i = x := by
 subst h
 unfold rd
 rw [Int.toNat_natCast, List.getD_eq_getElem?_getD, List.getElem?_append_right (Nat.le_refl _)]
 simp
theorem rd_ints (l : List Nat) (i : Nat) : rd (ints l) (i : Int) = ((l.getD i 0 : Nat) : Int) := by
 unfold rd ints
 rw [Int.toNat_natCast, List.getD_eq_getElem?_getD, List.getD_eq_getElem?_getD, List.getElem?_map]
 cases l[i]? <;> rfl
theorem set_at {a b : List Int} {x y : Int} {i : Nat} (h : i = a.length) : (a ++ x :: b).set i y = a ++ y :: b := by
 subst h
 rw [List.set_append_right _ _ (Nat.le_refl _), Nat.sub_self]
 rfl
theorem digitsOf_loop (p : Nat) (hp : 0 < p) (m : Nat) (hm : m < 4294967296) : ∀ (d : Nat) (y : Nat) (A : List Nat), y < 4294967296 → A.length + d = m →
  Ev (fun k => field_digitsOf.l0 k (y : Int) (p : Int) (ints (A ++ List.replicate d 0)) (m : Int) (A.length : Int)) (ints (A ++ Cw.dg p d y)) := by
 intro d
 induction d with
 | zero =>
  intro y A hy hA
  refine Ev.step (f := fun _ => some _) (fun k => ?_) (Ev.now _)
  simp only [field_digitsOf.l0]
  rw [if_neg (by omega)]
  rfl
 | succ d ih =>
  intro y A hy hA
  have h := ih (y / p) (A ++ [y % p]) (Nat.lt_of_le_of_lt (Nat.div_le_self _ _) hy) (by simp; omega)
  have e : A ++ Cw.dg p (d + 1) y = (A ++ [y % p]) ++ Cw.dg p d (y / p) := by simp [Cw.dg]
  rw [e]
  refine Ev.step (fun k => ?_) h
  simp only [field_digitsOf.l0]
  have hd := Nat.div_le_self y p
  have hs : (ints (A ++ List.replicate (d + 1) 0)).set A.length (((y % p : Nat)) : Int) = ints (A ++ [y % p] ++ List.replicate d 0) := by
   rw [List.replicate_succ, ints_append, ints_cons, set_at (by rw [ints_length]), List.append_assoc, ints_append]
   rfl
  rw [if_pos (by omega), if_neg (by omega), if_pos (by omega), if_pos (by rw [ints_length, List.length_append, List.length_replicate]; omega), Cw.tdiv_nat, Cw.tmod_nat, w64n _ (by omega), w64 (by omega) (by omega), Int.toNat_natCast, hs]
  rw [List.length_append]
  rfl
theorem digitsOf_ev (x p m : Nat) (hx : x < 4294967296) (hp : 0 < p) (hm : m < 4294967296) : Ev (fun k => field_digitsOf.f k (x : Int) (p : Int) (m : Int)) (ints (Cw.dg p m x)) := by
 have h := digitsOf_loop p hp m hm m x [] hx (by simp)
 refine Ev.congr (fun k => ?_) h
 unfold field_digitsOf.f
 rw [if_pos (by omega), if_pos (by omega), Option.bind_some, Int.toNat_natCast, ints_zero, ints_length, List.length_replicate]
 rfl
theorem digits04_loop (p : Nat) (hp : 0 < p) (m : Nat) (hm : m < 4294967296) : ∀ (d : Nat) (y : Nat) (A : List Nat), y < 4294967296 → A.length + d = m →
  Ev (fun k => r4digits.l0 k (y : Int) (p : Int) (m : Int) (ints (A ++ List.replicate d 0)) (A.length : Int)) (ints (A ++ Cw.dg p d y)) := by
 intro d
 induction d with
 | zero =>
  intro y A hy hA
  refine Ev.step (f := fun _ => some _) (fun k => ?_) (Ev.now _)
  simp only [r4digits.l0]
  rw [if_neg (by omega)]
  rfl
 | succ d ih =>
  intro y A hy hA
  have h := ih (y / p) (A ++ [y % p]) (Nat.lt_of_le_of_lt (Nat.div_le_self _ _) hy) (by simp; omega)
  have e : A ++ Cw.dg p (d + 1) y = (A ++ [y % p]) ++ Cw.dg p d (y / p) := by simp [Cw.dg]
  rw [e]
  refine Ev.step (fun k => ?_) h
  simp only [r4digits.l0]
  have hd := Nat.div_le_self y p
  have hs : (ints (A ++ List.replicate (d + 1) 0)).set A.length (((y % p : Nat)) : Int) = ints (A ++ [y % p] ++ List.replicate d 0) := by
   rw [List.replicate_succ, ints_append, ints_cons, set_at (by rw [ints_length]), List.append_assoc, ints_append]
   rfl
  rw [if_pos (by omega), if_neg (by omega), if_pos (by omega), if_pos (by rw [ints_length, List.length_append, List.length_replicate]; omega), Cw.tdiv_nat, Cw.tmod_nat, w64n _ (by omega), w64 (by omega) (by omega), Int.toNat_natCast, hs]
  rw [List.length_append]
  rfl
theorem digits04_ev (x p m : Nat) (hx : x < 4294967296) (hp : 0 < p) (hm : m < 4294967296) : Ev (fun k => r4digits.f k (x : Int) (p : Int) (m : Int)) (ints (Cw.dg p m x)) := by
 have h := digits04_loop p hp m hm m x [] hx (by simp)
 refine Ev.congr (fun k => ?_) h
 unfold r4digits.f
 rw [if_pos (by omega), if_pos (by omega), Int.toNat_natCast, ints_zero]
 rfl
theorem cd_le {p : Nat} {l : List Nat} (hl : ∀ a, a ∈ l → a < p) (hs : p ^ l.length ≤ 65536) : Cw.cd p l < 65536 := Nat.lt_of_lt_of_le (Cw.cd_lt l hl) hs
theorem pow_suffix {p : Nat} (hp : 0 < p) (A B : List Nat) (hs : p ^ (A ++ B).length ≤ 65536) : p ^ B.length ≤ 65536 := by
 rw [List.length_append] at hs
 exact Nat.le_trans (Nat.pow_le_pow_right hp (by omega)) hs
theorem valueOf_loop (p : Nat) (hp : 0 < p) (hp2 : p ≤ 65536) : ∀ (n : Nat) (A B : List Nat), A.length = n → (∀ a, a ∈ A ++ B → a < p) → p ^ (A ++ B).length ≤ 65536 → (A ++ B).length ≤ 65536 →
  Ev (fun k => field_valueOf.l0 k (ints (A ++ B)) (p : Int) (Cw.cd p B : Int) ((n : Int) - 1)) (Cw.cd p (A ++ B) : Int) := by
 intro n
 induction n with
 | zero =>
  intro A B hA hl hs hb
  obtain rfl := List.length_eq_zero_iff.1 hA
  refine Ev.step (f := fun _ => some _) (fun k => ?_) (Ev.now _)
  simp only [field_valueOf.l0]
  rw [if_neg (by omega)]
  rfl
 | succ n ih =>
  intro A B hA hl hs hb
  obtain ⟨A', a, rfl⟩ := Cw.snoc_ex A (by rintro rfl; simp at hA)
  simp at hA
  have e : A' ++ [a] ++ B = A' ++ (a :: B) := by simp
  rw [e] at hl hs hb ⊢
  have h := ih A' (a :: B) hA hl hs hb
  refine Ev.step (fun k => ?_) h
  simp only [field_valueOf.l0]
  have hB := cd_le (p := p) (l := B) (fun x hx => hl x (by simp [hx])) (by
   have := pow_suffix hp (A' ++ [a]) B (by rw [e]; exact hs)
   exact this)
  have ha := hl a (by simp)
  have hm : Cw.cd p B * p ≤ 65536 * 65536 := Nat.mul_le_mul (by omega) hp2
  have hr : rd (ints (A' ++ a :: B)) (((n + 1 : Nat) : Int) - 1) = (a : Int) := by
   rw [ints_append, ints_cons]
   exact rd_at (by rw [ints_length]; omega)
  have hv : Cw.cd p (a :: B) = Cw.cd p B * p + a := by simp [Cw.cd, Nat.mul_comm, Nat.add_comm]
  rw [if_pos (by omega), if_pos (by omega), if_pos (by rw [ints_length, List.length_append, List.length_cons]; omega), hr, ← Int.natCast_mul, w64n _ (by omega), ← Int.natCast_add, w64n _ (by omega), w64 (by omega) (by rw [List.length_append] at hb; omega), ← hv]
  congr 1
  omega
theorem valueOf_ev (p : Nat) (l : List Nat) (hp : 0 < p) (hp2 : p ≤ 65536) (hl : ∀ a, a ∈ l → a < p) (hs : p ^ l.length ≤ 65536) (hb : l.length ≤ 65536) : Ev (fun k => field_valueOf.f k (ints l) (p : Int)) (Cw.cd p l : Int) := by
 have h := valueOf_loop p hp hp2 l.length l [] rfl (by simpa using hl) (by simpa using hs) (by simpa using hb)
 rw [List.append_nil] at h
 refine Ev.congr (fun k => ?_) h
 unfold field_valueOf.f
 rw [ints_length, w64 (by omega) (by omega)]
 rfl
theorem value04_loop (p : Nat) (hp : 0 < p) (hp2 : p ≤ 65536) (M : Int) (l : List Int) : ∀ (n : Nat) (A B : List Nat), A.length = n → (∀ a, a ∈ A ++ B → a < p) → p ^ (A ++ B).length ≤ 65536 → (A ++ B).length ≤ 65536 →
  Ev (fun k => r4Value.l0 k (ints (A ++ B)) (Cw.cd p B : Int) ((n : Int) - 1) (p : Int) M l) (Cw.cd p (A ++ B) : Int) := by
 intro n
 induction n with
 | zero =>
  intro A B hA hl hs hb
  obtain rfl := List.length_eq_zero_iff.1 hA
  refine Ev.step (f := fun _ => some _) (fun k => ?_) (Ev.now _)
  simp only [r4Value.l0]
  rw [if_neg (by omega)]
  rfl
 | succ n ih =>
  intro A B hA hl hs hb
  obtain ⟨A', a, rfl⟩ := Cw.snoc_ex A (by rintro rfl; simp at hA)
  simp at hA
  have e : A' ++ [a] ++ B = A' ++ (a :: B) := by simp
  rw [e] at hl hs hb ⊢
  have h := ih A' (a :: B) hA hl hs hb
  refine Ev.step (fun k => ?_) h
  simp only [r4Value.l0]
  have hB := cd_le (p := p) (l := B) (fun x hx => hl x (by simp [hx])) (by
   have := pow_suffix hp (A' ++ [a]) B (by rw [e]; exact hs)
   exact this)
  have ha := hl a (by simp)
  have hm : Cw.cd p B * p ≤ 65536 * 65536 := Nat.mul_le_mul (by omega) hp2
  have hr : rd (ints (A' ++ a :: B)) (((n + 1 : Nat) : Int) - 1) = (a : Int) := by
   rw [ints_append, ints_cons]
   exact rd_at (by rw [ints_length]; omega)
  have hv : Cw.cd p (a :: B) = Cw.cd p B * p + a := by simp [Cw.cd, Nat.mul_comm, Nat.add_comm]
  rw [if_pos (by omega), if_pos (by omega), if_pos (by rw [ints_length, List.length_append, List.length_cons]; omega), hr, ← Int.natCast_mul, w64n _ (by omega), ← Int.natCast_add, w64n _ (by omega), w64 (by omega) (by rw [List.length_append] at hb; omega), ← hv]
  congr 1
  omega
theorem value04_ev (p : Nat) (l : List Nat) (M : Int) (mod : List Int) (hp : 0 < p) (hp2 : p ≤ 65536) (hl : ∀ a, a ∈ l → a < p) (hs : p ^ l.length ≤ 65536) (hb : l.length ≤ 65536) : Ev (fun k => r4Value.f k (p : Int) M mod (ints l)) (Cw.cd p l : Int) := by
 have h := value04_loop p hp hp2 M mod l.length l [] rfl (by simpa using hl) (by simpa using hs) (by simpa using hb)
 rw [List.append_nil] at h
 refine Ev.congr (fun k => ?_) h
 unfold r4Value.f
 rw [ints_length, w64 (by omega) (by omega)]
 rfl
end Go.Proofs.Ytbohbfggmnjpdaa.Pl
end
-- Nl
section
namespace Go.Proofs.Ytbohbfggmnjpdaa.Hand
noncomputable section
open Go.RowKit Go.Proofs.Ytbohbfggmnjpdaa.P Go.Proofs.YtbohbfggmnjpdaaW.PrintWords Go.Proofs.YtbohbfggmnjpdaaW.PrintLast Go.Proofs.YtbohbfggmnjpdaaW.PrintMore
theorem results_c1 {P : Program} {fn : Func} {p : Tmp} {ty : TypeId} (h : fn.results = #[.cell p ty]) (tmps : Array Value) (w : World) (g : Nat) (t : TypeId) (cs : Array Value) (fr : Nat × Nat) (d : TypeDesc)
  (hp : tmps.getD p undef = .pointer (some ⟨g, 0, none⟩)) (hg : w.heap[g]? = some (.cells cs t fr))
  (hu : P.underlying ty = some d) (hd : (match d with | .struct _ | .array _ _ => true | _ => false) = true) (hi : (P.info? ty).map (·.size) = some cs.size) :
  (results fn tmps).run P w = .ok (.agg cs) w := by
 have hp' : tmps[p]?.getD undef = .pointer (some ⟨g, 0, none⟩) := by simpa using hp
 simp [results, h, hp', asAddr, run_loadVar_row w g t ty cs fr d hg hu hd hi]
theorem blk_put8 {w : World} {g : Nat} {t : TypeId} {z a0 a1 a2 a3 a4 a5 a6 a7 : Value} (h : w.heap[g]? = some (.cells #[z, z, z, z, z, z, z, z] t (0, 0))) :
  ((((((((w.setCell ⟨g, 0, none⟩ a0).setCell ⟨g, 1, none⟩ a1).setCell ⟨g, 2, none⟩ a2).setCell ⟨g, 3, none⟩ a3).setCell ⟨g, 4, none⟩ a4).setCell ⟨g, 5, none⟩ a5).setCell ⟨g, 6, none⟩ a6).setCell ⟨g, 7, none⟩ a7).heap[g]? = some (.cells #[a0, a1, a2, a3, a4, a5, a6, a7] t (0, 0)) := by
 have h0 := blk_put (cs' := #[a0, z, z, z, z, z, z, z]) h 0 a0 rfl
 have h1 := blk_put (cs' := #[a0, a1, z, z, z, z, z, z]) h0 1 a1 rfl
 have h2 := blk_put (cs' := #[a0, a1, a2, z, z, z, z, z]) h1 2 a2 rfl
 have h3 := blk_put (cs' := #[a0, a1, a2, a3, z, z, z, z]) h2 3 a3 rfl
 have h4 := blk_put (cs' := #[a0, a1, a2, a3, a4, z, z, z]) h3 4 a4 rfl
 have h5 := blk_put (cs' := #[a0, a1, a2, a3, a4, a5, z, z]) h4 5 a5 rfl
 have h6 := blk_put (cs' := #[a0, a1, a2, a3, a4, a5, a6, z]) h5 6 a6 rfl
 exact blk_put (cs' := #[a0, a1, a2, a3, a4, a5, a6, a7]) h6 7 a7 rfl
set_option maxHeartbeats 800000 in
set_option maxRecDepth 100000 in
theorem number_wheel.calls (w : World) : Calls Try.prog 73 #[] w fun e w' => e = .returned (.agg #[.int .i64 1, .int .i64 7, .int .i64 11, .int .i64 13, .int .i64 17, .int .i64 19, .int .i64 23, .int .i64 29]) ∧ Below w.heap.size w w' := by
 have hu94 := Try.underlying94
 have HB := Q9a.mk (Below.refl w.heap.size w)
 go_enter Try.func73, Try.ntmps73
 go_wp2_with (first | ((with_reducible refine gate_dst (N := 0) rfl ?_); refine box_event ?hg (N := 0) ?hd (cs := #[.int .i64 0, .int .i64 0, .int .i64 0, .int .i64 0, .int .i64 0, .int .i64 0, .int .i64 0, .int .i64 0]) (t := 94) ?hr ?_; (case hd => rfl); (case hg => rfl); (case hr => first | (go_simp; done) | (go_simp; rfl)); intro gr hg w4 hbox hb; have n0_ := Q9a.mk (bP HB.out hb); have n1_ := Q9a.mk hbox; have n2_ := Q9a.mk (show w.heap.size ≤ gr by rw [hg]; exact bZ HB.out); clear HB; have HB := n0_; have BKr := n1_; have GEr := n2_; clear n0_ n1_ n2_ hb hbox hg; have hc0 := kC BKr.out 0; have hc1 := kC BKr.out 1; have hc2 := kC BKr.out 2; have hc3 := kC BKr.out 3; have hc4 := kC BKr.out 4; have hc5 := kC BKr.out 5; have hc6 := kC BKr.out 6; have hc7 := kC BKr.out 7; have hf0 := kF BKr.out 0; have hf1 := kF BKr.out 1; have hf2 := kF BKr.out 2; have hf3 := kF BKr.out 3; have hf4 := kF BKr.out 4; have hf5 := kF BKr.out 5; have hf6 := kF BKr.out 6; have hf7 := kF BKr.out 7))
 refine bodyPost_ret (results_c1 rfl _ _ gr 94 #[.int .i64 1, .int .i64 7, .int .i64 11, .int .i64 13, .int .i64 17, .int .i64 19, .int .i64 23, .int .i64 29] (0, 0) _ rfl (by exact blk_put8 BKr.out) Try.underlying94 rfl (by kernel_rfl)) rfl ?_
 exact ⟨rfl, by repeat (with_reducible first | exact HB.out | refine bS ?_ GEr.out)⟩
theorem run_index8_0 (w : World) : (Instr.index 94 (.agg #[.int .i64 1, .int .i64 7, .int .i64 11, .int .i64 13, .int .i64 17, .int .i64 19, .int .i64 23, .int .i64 29]) (.int .i64 0)).run Try.prog w = .ok (.int .i64 1) w := by kernel_rfl
theorem run_index8_1 (w : World) : (Instr.index 94 (.agg #[.int .i64 1, .int .i64 7, .int .i64 11, .int .i64 13, .int .i64 17, .int .i64 19, .int .i64 23, .int .i64 29]) (.int .i64 1)).run Try.prog w = .ok (.int .i64 7) w := by kernel_rfl
theorem run_index8_2 (w : World) : (Instr.index 94 (.agg #[.int .i64 1, .int .i64 7, .int .i64 11, .int .i64 13, .int .i64 17, .int .i64 19, .int .i64 23, .int .i64 29]) (.int .i64 2)).run Try.prog w = .ok (.int .i64 11) w := by kernel_rfl
theorem run_index8_3 (w : World) : (Instr.index 94 (.agg #[.int .i64 1, .int .i64 7, .int .i64 11, .int .i64 13, .int .i64 17, .int .i64 19, .int .i64 23, .int .i64 29]) (.int .i64 3)).run Try.prog w = .ok (.int .i64 13) w := by kernel_rfl
theorem run_index8_4 (w : World) : (Instr.index 94 (.agg #[.int .i64 1, .int .i64 7, .int .i64 11, .int .i64 13, .int .i64 17, .int .i64 19, .int .i64 23, .int .i64 29]) (.int .i64 4)).run Try.prog w = .ok (.int .i64 17) w := by kernel_rfl
attribute [local go_sem] run_index8_0 run_index8_1 run_index8_2 run_index8_3 run_index8_4
def leastV (n : Int) : Int := if Int.tmod n 2 = 0 then 2 else if Int.tmod n 3 = 0 then 3 else if Int.tmod n 5 = 0 then 5 else (if 49 > n then n else if Int.tmod n 7 = 0 then 7 else (if 121 > n then n else if Int.tmod n 11 = 0 then 11 else (if 169 > n then n else if Int.tmod n 13 = 0 then 13 else n)))
def number_least.f (a0 : Int) : Option Int := if 2 ≤ a0 ∧ a0 ≤ 255 then some (leastV a0) else none
theorem reps_lit3 {W : World} {base : Nat} {ok : Nat → Prop} : Reps ((Kd.int .i64).M W base ok) (Kd.int .i64).sz [2, 3, 5] [.int .i64 2, .int .i64 3, .int .i64 5] := Kd.reps_scalar (enc := fun x : Int => Value.int .i64 x) [2, 3, 5]
set_option maxHeartbeats 1000000 in
set_option maxRecDepth 100000 in
theorem number_least.calls (a0 : Int) (r : Int) (w : World) (h : number_least.f a0 = some r) :
  Calls Try.prog 70 #[.int .i64 a0] w fun e w' => e = .returned (.int .i64 r) ∧ Below w.heap.size w w' := by
 obtain ⟨n, rfl⟩ : ∃ n, n = a0 := ⟨_, rfl⟩
 unfold number_least.f at h
 split at h
 case isFalse => cases h
 rename_i hn
 have hr := (Option.some.inj h).symm
 clear h
 have HN := Q9a.mk hn
 have HRr := Q9a.mk hr
 clear hn hr
 have HB := Q9a.mk (Below.refl w.heap.size w)
 have hu94 := Try.underlying94
 go_enter Try.func70, Try.ntmps70
 go_wp2
 go_step3
 go_wp2_with (first | ((with_reducible refine gate_dst (N := 10) rfl ?_); refine Kd.R_lit (Kd.int .i64) _ 3 ?hg (N := 10) ?hd (xs := ([2, 3, 5] : List Int)) (inner := [.int .i64 2, .int .i64 3, .int .i64 5]) (ok := fun _ => True) (okp := fun _ => True) ?hr ?hp (fun _ hk => hk) trivial (Below.refl _ _) (Nat.le_refl _) (by simp) ?_; (case hd => rfl); (case hg => rfl); (case hr => first | (go_simp; done) | (go_simp; rfl)); (case hp => exact reps_lit3); intro vx w6 ho7 hb hg_ hnew_; clear hg_ hnew_; have n0_ := Q9a.mk (Kd.R_lower ho7 (bZ HB.out)); have n1_ := Q9a.mk (bP HB.out hb); clear HB; have HX := n0_; have HB := n1_; clear n0_ n1_ hb ho7; obtain ⟨gx, cx, hfx, -⟩ := Kd.R_form HX.out (by simp); subst hfx))
 go_loopg [12] 3 (fun kq v12 w' => ∃ i : Nat, v12 = .int .i64 (i : Int) ∧ Q9a (i + kq = 3) ∧ Q9a ((i = 0 ∧ r = leastV n) ∨ (i = 1 ∧ r = (if Int.tmod n 3 = 0 then 3 else if Int.tmod n 5 = 0 then 5 else (if 49 > n then n else if Int.tmod n 7 = 0 then 7 else (if 121 > n then n else if Int.tmod n 11 = 0 then 11 else (if 169 > n then n else if Int.tmod n 13 = 0 then 13 else n))))) ∨ (i = 2 ∧ r = (if Int.tmod n 5 = 0 then 5 else (if 49 > n then n else if Int.tmod n 7 = 0 then 7 else (if 121 > n then n else if Int.tmod n 11 = 0 then 11 else (if 169 > n then n else if Int.tmod n 13 = 0 then 13 else n))))) ∨ (i = 3 ∧ r = (if 49 > n then n else if Int.tmod n 7 = 0 then 7 else (if 121 > n then n else if Int.tmod n 11 = 0 then 11 else (if 169 > n then n else if Int.tmod n 13 = 0 then 13 else n))))) ∧ Q9a (Kd.R (Kd.int .i64) 3 w' w.heap.size (fun _ => True) (.slice (some ⟨gx, 0, none⟩) 3 cx) [2, 3, 5]) ∧ Q9a (Below w.heap.size w w'))
 case atStart => exact ⟨0, rfl, ⟨by omega⟩, ⟨Or.inl ⟨rfl, HRr.out⟩⟩, HX, HB⟩
 case round =>
  obtain ⟨i, rfl, HI, HV, HX, HB⟩ := hrel
  rcases HV.out with ⟨rfl, hv⟩ | HV'
  ·clear HV
   have HVi := Q9a.mk hv
   clear hv
   obtain ⟨hx, -⟩ := Kd.R_celln 0 HX.out (0 : Int) (by omega) (by simp)
   (try rw [show ((0 : Int)).toNat = 0 from rfl] at hx)
   have hx' : wr.cell? ⟨gx, 0, none⟩ = some (.int .i64 2) := hx
   clear hx
   by_cases c : Int.tmod n 2 = 0
   ·have cb : (Int.tmod n 2 == 0) = true := beq_iff_eq.mpr c
    have e1 : r = 2 := by rw [HVi.out]; unfold leastV; rw [if_pos c]
    clear c
    subst e1
    go_wp2
    try rw [Exit.noGoto_ret]
    go_ret
    exact ⟨rfl, HB.out⟩
   ·have cb : (Int.tmod n 2 == 0) = false := beq_eq_false_iff_ne.mpr c
    have e1 : r = (if Int.tmod n 3 = 0 then 3 else if Int.tmod n 5 = 0 then 5 else (if 49 > n then n else if Int.tmod n 7 = 0 then 7 else (if 121 > n then n else if Int.tmod n 11 = 0 then 11 else (if 169 > n then n else if Int.tmod n 13 = 0 then 13 else n)))) := by rw [HVi.out]; unfold leastV; rw [if_neg c]
    clear c
    obtain ⟨k1, rfl⟩ : ∃ k1, gk = k1 + 1 := ⟨gk - 1, by have := HI.out; omega⟩
    go_wp2
    go_roundg k1
    case measure => omega
    case rel => exact ⟨1, rfl, ⟨by have := HI.out; omega⟩, ⟨Or.inr (Or.inl ⟨rfl, e1⟩)⟩, HX, HB⟩
  rcases HV' with ⟨rfl, hv⟩ | HV'
  ·skip
   have HVi := Q9a.mk hv
   clear hv
   obtain ⟨hx, -⟩ := Kd.R_celln 0 HX.out (1 : Int) (by omega) (by simp)
   (try rw [show ((1 : Int)).toNat = 1 from rfl] at hx)
   have hx' : wr.cell? ⟨gx, 1, none⟩ = some (.int .i64 3) := hx
   clear hx
   by_cases c : Int.tmod n 3 = 0
   ·have cb : (Int.tmod n 3 == 0) = true := beq_iff_eq.mpr c
    have e1 : r = 3 := by rw [HVi.out]; rw [if_pos c]
    clear c
    subst e1
    go_wp2
    try rw [Exit.noGoto_ret]
    go_ret
    exact ⟨rfl, HB.out⟩
   ·have cb : (Int.tmod n 3 == 0) = false := beq_eq_false_iff_ne.mpr c
    have e1 : r = (if Int.tmod n 5 = 0 then 5 else (if 49 > n then n else if Int.tmod n 7 = 0 then 7 else (if 121 > n then n else if Int.tmod n 11 = 0 then 11 else (if 169 > n then n else if Int.tmod n 13 = 0 then 13 else n)))) := by rw [HVi.out]; rw [if_neg c]
    clear c
    obtain ⟨k1, rfl⟩ : ∃ k1, gk = k1 + 1 := ⟨gk - 1, by have := HI.out; omega⟩
    go_wp2
    go_roundg k1
    case measure => omega
    case rel => exact ⟨2, rfl, ⟨by have := HI.out; omega⟩, ⟨Or.inr (Or.inr (Or.inl ⟨rfl, e1⟩))⟩, HX, HB⟩
  rcases HV' with ⟨rfl, hv⟩ | HV'
  ·skip
   have HVi := Q9a.mk hv
   clear hv
   obtain ⟨hx, -⟩ := Kd.R_celln 0 HX.out (2 : Int) (by omega) (by simp)
   (try rw [show ((2 : Int)).toNat = 2 from rfl] at hx)
   have hx' : wr.cell? ⟨gx, 2, none⟩ = some (.int .i64 5) := hx
   clear hx
   by_cases c : Int.tmod n 5 = 0
   ·have cb : (Int.tmod n 5 == 0) = true := beq_iff_eq.mpr c
    have e1 : r = 5 := by rw [HVi.out]; rw [if_pos c]
    clear c
    subst e1
    go_wp2
    try rw [Exit.noGoto_ret]
    go_ret
    exact ⟨rfl, HB.out⟩
   ·have cb : (Int.tmod n 5 == 0) = false := beq_eq_false_iff_ne.mpr c
    have e1 : r = (if 49 > n then n else if Int.tmod n 7 = 0 then 7 else (if 121 > n then n else if Int.tmod n 11 = 0 then 11 else (if 169 > n then n else if Int.tmod n 13 = 0 then 13 else n))) := by rw [HVi.out]; rw [if_neg c]
    clear c
    obtain ⟨k1, rfl⟩ : ∃ k1, gk = k1 + 1 := ⟨gk - 1, by have := HI.out; omega⟩
    go_wp2
    go_roundg k1
    case measure => omega
    case rel => exact ⟨3, rfl, ⟨by have := HI.out; omega⟩, ⟨Or.inr (Or.inr (Or.inr ⟨rfl, e1⟩))⟩, HX, HB⟩
  obtain ⟨rfl, hv⟩ := HV'
  have HVi := Q9a.mk hv
  clear hv
  go_wp2
  go_step3
  go_wp2
  go_loopg [5, 6] 1 (fun kq v5 v6 w' => v5 = .int .i64 n ∧ v6 = .int .i64 0 ∧ Q9a (Below w.heap.size w w'))
  case atStart => exact ⟨rfl, rfl, HB⟩
  case round =>
   obtain ⟨rfl, rfl, HB⟩ := hrel
   go_wp2_with (first | ((with_reducible refine gate_callee (f := 73) rfl ?_); refine goesL_ (some 25) rfl rfl Try.func73 (by kernel_rfl) rfl #[] rfl (by (try simp only [List.map_toArray, List.map_cons, List.map_nil]); first | done | rfl) ?_; (with_reducible refine (number_wheel.calls _).mono ?_); rintro e wh ⟨rfl, hb⟩; refine ⟨_, rfl, ?_⟩; have n0_ := Q9a.mk (bP HB.out hb); clear HB; have HB := n0_; clear n0_ hb))
   go_loopg [5, 26] 4 (fun kq v5 v26 w' => ∃ i : Nat, v5 = .int .i64 n ∧ v26 = .int .i64 (i : Int) ∧ Q9a (i + kq = 4) ∧ Q9a ((i = 0 ∧ r = (if 49 > n then n else if Int.tmod n 7 = 0 then 7 else (if 121 > n then n else if Int.tmod n 11 = 0 then 11 else (if 169 > n then n else if Int.tmod n 13 = 0 then 13 else n)))) ∨ (i = 1 ∧ r = (if 49 > n then n else if Int.tmod n 7 = 0 then 7 else (if 121 > n then n else if Int.tmod n 11 = 0 then 11 else (if 169 > n then n else if Int.tmod n 13 = 0 then 13 else n)))) ∨ (i = 2 ∧ r = (if 121 > n then n else if Int.tmod n 11 = 0 then 11 else (if 169 > n then n else if Int.tmod n 13 = 0 then 13 else n))) ∨ (i = 3 ∧ r = (if 169 > n then n else if Int.tmod n 13 = 0 then 13 else n)) ∨ (i = 4 ∧ r = n)) ∧ Q9a (Below w.heap.size w w'))
   case atStart => exact ⟨0, rfl, rfl, ⟨by omega⟩, ⟨Or.inl ⟨rfl, HVi.out⟩⟩, HB⟩
   case round =>
    obtain ⟨i, rfl, rfl, HI, HV, HB⟩ := hrel
    rcases HV.out with ⟨rfl, hv⟩ | HV'
    ·have HVi := Q9a.mk hv
     clear hv HV
     obtain ⟨k1, rfl⟩ : ∃ k1, gk = k1 + 1 := ⟨gk - 1, by have := HI.out; omega⟩
     go_wp2
     go_roundg k1
     case measure => omega
     case rel => exact ⟨1, rfl, rfl, ⟨by have := HI.out; omega⟩, ⟨Or.inr (Or.inl ⟨rfl, HVi.out⟩)⟩, HB⟩
    rcases HV' with ⟨rfl, hv⟩ | HV'
    ·have HVi := Q9a.mk hv
     clear hv
     by_cases c : 49 > n
     ·have cb : decide (n < 49) = true := decide_eq_true c
      have e1 : r = n := by rw [HVi.out, if_pos c]
      clear c
      subst e1
      go_wp2
      try rw [Exit.noGoto_ret]
      go_ret
      exact ⟨rfl, HB.out⟩
     ·have cb : decide (n < 49) = false := decide_eq_false c
      have e0 := HVi.out
      rw [if_neg c] at e0
      clear c
      by_cases c : Int.tmod n 7 = 0
      ·have cc : (Int.tmod n 7 == 0) = true := beq_iff_eq.mpr c
       have e1 : r = 7 := by rw [e0, if_pos c]
       clear c e0
       subst e1
       go_wp2
       try rw [Exit.noGoto_ret]
       go_ret
       exact ⟨rfl, HB.out⟩
      ·have cc : (Int.tmod n 7 == 0) = false := beq_eq_false_iff_ne.mpr c
       rw [if_neg c] at e0
       clear c
       obtain ⟨k1, rfl⟩ : ∃ k1, gk = k1 + 1 := ⟨gk - 1, by have := HI.out; omega⟩
       go_wp2
       go_roundg k1
       case measure => omega
       case rel => exact ⟨2, rfl, rfl, ⟨by have := HI.out; omega⟩, ⟨Or.inr (Or.inr (Or.inl ⟨rfl, e0⟩))⟩, HB⟩
    rcases HV' with ⟨rfl, hv⟩ | HV'
    ·have HVi := Q9a.mk hv
     clear hv
     by_cases c : 121 > n
     ·have cb : decide (n < 121) = true := decide_eq_true c
      have e1 : r = n := by rw [HVi.out, if_pos c]
      clear c
      subst e1
      go_wp2
      try rw [Exit.noGoto_ret]
      go_ret
      exact ⟨rfl, HB.out⟩
     ·have cb : decide (n < 121) = false := decide_eq_false c
      have e0 := HVi.out
      rw [if_neg c] at e0
      clear c
      by_cases c : Int.tmod n 11 = 0
      ·have cc : (Int.tmod n 11 == 0) = true := beq_iff_eq.mpr c
       have e1 : r = 11 := by rw [e0, if_pos c]
       clear c e0
       subst e1
       go_wp2
       try rw [Exit.noGoto_ret]
       go_ret
       exact ⟨rfl, HB.out⟩
      ·have cc : (Int.tmod n 11 == 0) = false := beq_eq_false_iff_ne.mpr c
       rw [if_neg c] at e0
       clear c
       obtain ⟨k1, rfl⟩ : ∃ k1, gk = k1 + 1 := ⟨gk - 1, by have := HI.out; omega⟩
       go_wp2
       go_roundg k1
       case measure => omega
       case rel => exact ⟨3, rfl, rfl, ⟨by have := HI.out; omega⟩, ⟨Or.inr (Or.inr (Or.inr (Or.inl ⟨rfl, e0⟩)))⟩, HB⟩
    rcases HV' with ⟨rfl, hv⟩ | HV'
    ·have HVi := Q9a.mk hv
     clear hv
     by_cases c : 169 > n
     ·have cb : decide (n < 169) = true := decide_eq_true c
      have e1 : r = n := by rw [HVi.out, if_pos c]
      clear c
      subst e1
      go_wp2
      try rw [Exit.noGoto_ret]
      go_ret
      exact ⟨rfl, HB.out⟩
     ·have cb : decide (n < 169) = false := decide_eq_false c
      have e0 := HVi.out
      rw [if_neg c] at e0
      clear c
      by_cases c : Int.tmod n 13 = 0
      ·have cc : (Int.tmod n 13 == 0) = true := beq_iff_eq.mpr c
       have e1 : r = 13 := by rw [e0, if_pos c]
       clear c e0
       subst e1
       go_wp2
       try rw [Exit.noGoto_ret]
       go_ret
       exact ⟨rfl, HB.out⟩
      ·have cc : (Int.tmod n 13 == 0) = false := beq_eq_false_iff_ne.mpr c
       rw [if_neg c] at e0
       clear c
       obtain ⟨k1, rfl⟩ : ∃ k1, gk = k1 + 1 := ⟨gk - 1, by have := HI.out; omega⟩
       go_wp2
       go_roundg k1
       case measure => omega
       case rel => exact ⟨4, rfl, rfl, ⟨by have := HI.out; omega⟩, ⟨Or.inr (Or.inr (Or.inr (Or.inr (⟨rfl, e0⟩))))⟩, HB⟩
    obtain ⟨rfl, hv⟩ := HV'
    have HVi := Q9a.mk hv
    clear hv
    have cb : decide (n < 289) = true := decide_eq_true (by have := HN.out; omega)
    have e1 := HVi.out
    subst e1
    go_wp2
    try rw [Exit.noGoto_ret]
    go_ret
    exact ⟨rfl, HB.out⟩
end
end Go.Proofs.Ytbohbfggmnjpdaa.Hand
end
