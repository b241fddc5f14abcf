/- What towerTransitive_holds needs: texts Pa7, put together. -/
import Derived.Test.YtoambdpchjeklaaKTR7
set_option linter.unusedVariables false
set_option linter.unusedSimpArgs false
-- Pa7
section
namespace Go.Proofs.Ytoambdpchjeklaa.P
noncomputable section
open Go.RowKit Go.Proofs.Ytoambdpchjeklaa.Hand Go.Proofs.YtoambdpchjeklaaW.PrintWords Go.Proofs.YtoambdpchjeklaaW.PrintLast Go.Proofs.YtoambdpchjeklaaW.PrintMore
set_option linter.unusedVariables false
set_option linter.unusedSimpArgs false
mutual
def codewrightref04_Pow.j0 : Nat → Int → Int → Bool → Int → Int → List Int → Option (Int × Int)
 | 0, _, _, _, _, _, _ => none
 | k + 1, x1, x2, x21, x220000, x220001, x220002 => if x21 = true then (some (0, 7)) else (if x1 = 0 then (some (0, 0)) else ((codewrightref04_Order.f k x220000 x220001 x220002).bind fun t221 => (if (wrap64 (t221 - 1)) = 0 then (none) else (codewrightref04_Pow.l0 k x1 (Int.tmod (wrap64 ((Int.tmod x2 (wrap64 (t221 - 1))) + (wrap64 (t221 - 1)))) (wrap64 (t221 - 1))) 1 0 x220000 x220001 x220002))))
def codewrightref04_Pow.l0 : Nat → Int → Int → Int → Int → Int → Int → List Int → Option (Int × Int)
 | 0, _, _, _, _, _, _, _ => none
 | k + 1, x1, x2, x9, x10, x220000, x220001, x220002 => if x10 < x2 then ((codewrightref04_Mul.f k x220000 x220001 x220002 x9 x1).bind fun t222 => (codewrightref04_Pow.l0 k x1 x2 t222 (wrap64 (x10 + 1)) x220000 x220001 x220002)) else (some (x9, 0))
end
def codewrightref04_Pow.f (k : Nat) (a0_0 : Int) (a0_1 : Int) (l0_2 : List Int) (a1 : Int) (a2 : Int) : Option (Int × Int) := (codewrightref04_In.f k a0_0 a0_1 l0_2 a1).bind fun t220 => (if a2 = 0 then (some (1, 0)) else (if t220 = 0 then (codewrightref04_Pow.j0 k t220 a2 (decide (a2 < 0)) a0_0 a0_1 l0_2) else (codewrightref04_Pow.j0 k t220 a2 false a0_0 a0_1 l0_2)))
set_option maxHeartbeats 8000000 in
set_option maxRecDepth 100000 in
theorem codewrightref04_Pow.calls (k : Nat) (a0_0 : Int) (a0_1 : Int) (A0_2 : Option Addr) (c0_2 : Nat) (l0_2 : List Int) (a1 : Int) (a2 : Int) (r1 : Int) (r2 : Int) (w : World) (hr0_2 : Kd.C (Kd.int .i64) w A0_2 l0_2.length l0_2) (hc0_2 : l0_2.length ≤ c0_2) (h : codewrightref04_Pow.f k a0_0 a0_1 l0_2 a1 a2 = some (r1, r2)) :
  Calls Try.prog 42 #[.agg #[.int .i64 a0_0, .int .i64 a0_1, .slice A0_2 l0_2.length c0_2], .int .i64 a1, .int .i64 a2] w fun e w' => e = .returned (.tuple #[.int .i64 r1, .int .i64 r2]) ∧ Below w.heap.size w w' := by
 have hu24 := Try.underlying24
 have HR0_2 := Aside0.mk hr0_2
 have HC0_2 := Aside0.mk hc0_2
 clear hr0_2 hc0_2
 have HB := Aside0.mk (Below.refl w.heap.size w)
 have H : ((codewrightref04_In.f k a0_0 a0_1 l0_2 a1).bind fun t220 => (if a2 = 0 then (some (1, 0)) else (if t220 = 0 then (codewrightref04_Pow.j0 k t220 a2 (decide (a2 < 0)) a0_0 a0_1 l0_2) else (codewrightref04_Pow.j0 k t220 a2 false a0_0 a0_1 l0_2)))) = some (r1, r2) := h
 clear h
 replace H := Option.bind_eq_some_iff.mp H
 obtain ⟨t220, A40, H⟩ := H
 replace H : (if a2 = 0 then (some (1, 0)) else (if t220 = 0 then (codewrightref04_Pow.j0 k t220 a2 (decide (a2 < 0)) a0_0 a0_1 l0_2) else (codewrightref04_Pow.j0 k t220 a2 false a0_0 a0_1 l0_2))) = some (r1, r2) := H
 have A4 := Aside0.mk A40
 clear A40
 by_cases c5 : a2 = 0
 ·rw [if_pos c5] at H
  have c5b0 : (a2 == 0) = true := beq_iff_eq.mpr c5
  have c5b1 : (a2 != 0) = false := bne_eq_false_iff_eq.mpr c5
  clear c5
  simp only [Option.some.injEq, Prod.mk.injEq] at H
  obtain ⟨rfl, rfl⟩ := H
  go_enter Try.func42, Try.ntmps42
  go_wp2_with (first | ((with_reducible refine gate_dst (N := 3) rfl ?_); refine box_event ?hg (N := 3) ?hd (cs := #[.int .i64 a0_0, .int .i64 a0_1, .slice A0_2 l0_2.length c0_2]) (t := 24) ?hr ?_; (case hd => rfl); (case hg => rfl); (case hr => first | (go_simp; done) | (go_simp; rfl)); intro gb219 hg w6 hbox hb; have n0_ := Aside0.mk (bP (by repeat (first | (with_reducible first | exact HB.out | apply bA | apply bN | apply bD) | exact HB.out)) hb); have n1_ := Aside0.mk (hbox); have n2_ := Aside0.mk ((by rw [hg]; exact (bZ (by repeat (first | (with_reducible first | exact HB.out | apply bA | apply bN | apply bD) | exact HB.out))) : w.heap.size ≤ gb219)); have n3_ := Aside0.mk ((by rw [hg]; exact (bZ (by repeat (first | (with_reducible first | exact HB.out | apply bA | apply bN | apply bD) | exact HB.out))) : w.heap.size ≤ gb219)); clear HB; have HB := n0_; have BK219 := n1_; have GW219 := n2_; have GE219 := n3_; clear n0_ n1_ n2_ n3_; clear hb hbox hg; have hcz7_0 : w6.cell? ⟨gb219, 0, none⟩ = some (.int .i64 a0_0) := (kC BK219.out 0).trans rfl; have hcz7_1 : w6.cell? ⟨gb219, 1, none⟩ = some (.int .i64 a0_1) := (kC BK219.out 1).trans rfl; have hcz7_2 : w6.cell? ⟨gb219, 2, none⟩ = some (.slice A0_2 l0_2.length c0_2) := (kC BK219.out 2).trans rfl; have hfz7_0 := kF BK219.out 0; have hfz7_1 := kF BK219.out 1; have hfz7_2 := kF BK219.out 2) | ((with_reducible refine gate_callee (f := 19) rfl ?_); refine goesL_ (some 13) rfl rfl Try.func19 (by kernel_rfl) rfl #[.agg #[.int .i64 a0_0, .int .i64 a0_1, .slice A0_2 l0_2.length c0_2], .int .i64 a1] rfl (by (try simp only [List.map_toArray, List.map_cons, List.map_nil]); first | done | rfl | (simp only [List.length_drop, List.length_take]; rfl)) ?_; (with_reducible refine (codewrightref04_In.calls k a0_0 a0_1 _ _ l0_2 a1 t220 _ ?side1 ?side2 A4.out).mono ?_); (case side1 => repeat (first | exact (Kd.C_below HR0_2.out HB.out) | (with_reducible refine Kd.C_alloc ?_ _) | (with_reducible refine Kd.C_drewN ?_ _) | (with_reducible refine Kd.C_drew ?_))); (case side2 => exact HC0_2.out); rintro e w8 ⟨rfl, hb⟩; refine ⟨_, rfl, ?_⟩; have n0_ := Aside0.mk (kB (g := gb219) (o := .cells #[.int .i64 a0_0, .int .i64 a0_1, .slice A0_2 l0_2.length c0_2] 24 (0, 0)) (by (with_reducible repeat (first | refine kN ?_ _ | refine kD ?_ | refine kA ?_ _)); exact BK219.out) hb); have n1_ := Aside0.mk (bP (by repeat (first | (with_reducible first | exact HB.out | apply bA | apply bN | apply bD | refine bS ?_ GE219.out) | exact HB.out)) hb); clear BK219; clear HB; have BK219 := n0_; have HB := n1_; clear n0_ n1_; (try clear hb); (try clear hb2); (try clear hk); (try clear hi)))
  go_ret2
  exact ⟨by first | rfl | (simp [eN, eS] <;> rfl) | (simp [*, eN, eS] <;> rfl), by repeat (first | (with_reducible first | exact HB.out | apply bA | apply bN | apply bD | refine bS ?_ GE219.out) | exact HB.out)⟩
 ·rw [if_neg c5] at H
  have c5b0 : (a2 == 0) = false := beq_eq_false_iff_ne.mpr c5
  have c5b1 : (a2 != 0) = true := bne_iff_ne.mpr c5
  have HC9 := Aside0.mk H
  clear H
  go_enter Try.func42, Try.ntmps42
  go_upto_region 4 with (first | ((with_reducible refine gate_dst (N := 3) rfl ?_); refine box_event ?hg (N := 3) ?hd (cs := #[.int .i64 a0_0, .int .i64 a0_1, .slice A0_2 l0_2.length c0_2]) (t := 24) ?hr ?_; (case hd => rfl); (case hg => rfl); (case hr => first | (go_simp; done) | (go_simp; rfl)); intro gb219 hg w10 hbox hb; have n0_ := Aside0.mk (bP (by repeat (first | (with_reducible first | exact HB.out | apply bA | apply bN | apply bD) | exact HB.out)) hb); have n1_ := Aside0.mk (hbox); have n2_ := Aside0.mk ((by rw [hg]; exact (bZ (by repeat (first | (with_reducible first | exact HB.out | apply bA | apply bN | apply bD) | exact HB.out))) : w.heap.size ≤ gb219)); have n3_ := Aside0.mk ((by rw [hg]; exact (bZ (by repeat (first | (with_reducible first | exact HB.out | apply bA | apply bN | apply bD) | exact HB.out))) : w.heap.size ≤ gb219)); clear HB; have HB := n0_; have BK219 := n1_; have GW219 := n2_; have GE219 := n3_; clear n0_ n1_ n2_ n3_; clear hb hbox hg; have hcz11_0 : w10.cell? ⟨gb219, 0, none⟩ = some (.int .i64 a0_0) := (kC BK219.out 0).trans rfl; have hcz11_1 : w10.cell? ⟨gb219, 1, none⟩ = some (.int .i64 a0_1) := (kC BK219.out 1).trans rfl; have hcz11_2 : w10.cell? ⟨gb219, 2, none⟩ = some (.slice A0_2 l0_2.length c0_2) := (kC BK219.out 2).trans rfl; have hfz11_0 := kF BK219.out 0; have hfz11_1 := kF BK219.out 1; have hfz11_2 := kF BK219.out 2) | ((with_reducible refine gate_callee (f := 19) rfl ?_); refine goesL_ (some 13) rfl rfl Try.func19 (by kernel_rfl) rfl #[.agg #[.int .i64 a0_0, .int .i64 a0_1, .slice A0_2 l0_2.length c0_2], .int .i64 a1] rfl (by (try simp only [List.map_toArray, List.map_cons, List.map_nil]); first | done | rfl | (simp only [List.length_drop, List.length_take]; rfl)) ?_; (with_reducible refine (codewrightref04_In.calls k a0_0 a0_1 _ _ l0_2 a1 t220 _ ?side1 ?side2 A4.out).mono ?_); (case side1 => repeat (first | exact (Kd.C_below HR0_2.out HB.out) | (with_reducible refine Kd.C_alloc ?_ _) | (with_reducible refine Kd.C_drewN ?_ _) | (with_reducible refine Kd.C_drew ?_))); (case side2 => exact HC0_2.out); rintro e w12 ⟨rfl, hb⟩; refine ⟨_, rfl, ?_⟩; have n0_ := Aside0.mk (kB (g := gb219) (o := .cells #[.int .i64 a0_0, .int .i64 a0_1, .slice A0_2 l0_2.length c0_2] 24 (0, 0)) (by (with_reducible repeat (first | refine kN ?_ _ | refine kD ?_ | refine kA ?_ _)); exact BK219.out) hb); have n1_ := Aside0.mk (bP (by repeat (first | (with_reducible first | exact HB.out | apply bA | apply bN | apply bD | refine bS ?_ GE219.out) | exact HB.out)) hb); clear BK219; clear HB; have BK219 := n0_; have HB := n1_; clear n0_ n1_; (try clear hb); (try clear hb2); (try clear hk); (try clear hi)))
  (try simp only [Act.put, List.setIfInBounds_toArray, List.set_cons_zero, List.set_cons_succ])
  go_cut [21] (fun v21 wc => ∃ (kq : Nat) (x21_8 : Bool), v21 = .bool x21_8 ∧ Aside0 (codewrightref04_Pow.j0 kq t220 a2 x21_8 a0_0 a0_1 l0_2 = some (r1, r2)) ∧ Aside0 (kq ≤ k) ∧ Aside0 (wc.heap[gb219]? = some (.cells #[.int .i64 a0_0, .int .i64 a0_1, (.slice A0_2 l0_2.length c0_2)] 24 (0, 0))) ∧ Aside0 (Below w.heap.size w wc))
  case first =>
   have H := HC9.out
   clear HC9
   by_cases c13 : t220 = 0
   ·rw [if_pos c13] at H
    have c13b0 : (t220 == 0) = true := beq_iff_eq.mpr c13
    have c13b1 : (t220 != 0) = false := bne_eq_false_iff_eq.mpr c13
    clear c13
    (first | rw [c13b0] | (simp only [i64_w, i32_w]; rw [c13b0]) | skip)
    have H' := Aside0.mk H
    clear H
    go_wp2
    go_meet
    case rel => exact ⟨_, (decide (a2 < 0)), (by first | rfl | (simp; done) | (simp [*]; done)), H', ⟨by first | omega | exact Nat.le_refl _⟩, ⟨by (with_reducible repeat (first | refine kN ?_ _ | refine kD ?_ | refine kA ?_ _)); exact BK219.out⟩, ⟨by repeat (first | (with_reducible first | exact HB.out | apply bA | apply bN | apply bD | refine bS ?_ GE219.out) | exact HB.out)⟩⟩
   ·rw [if_neg c13] at H
    have c13b0 : (t220 == 0) = false := beq_eq_false_iff_ne.mpr c13
    have c13b1 : (t220 != 0) = true := bne_iff_ne.mpr c13
    (first | rw [c13b0] | (simp only [i64_w, i32_w]; rw [c13b0]) | skip)
    have H' := Aside0.mk H
    clear H
    go_wp2
    go_meet
    case rel => exact ⟨_, (false), (by first | rfl | (simp; done) | (simp [*]; done)), H', ⟨by first | omega | exact Nat.le_refl _⟩, ⟨by (with_reducible repeat (first | refine kN ?_ _ | refine kD ?_ | refine kA ?_ _)); exact BK219.out⟩, ⟨by repeat (first | (with_reducible first | exact HB.out | apply bA | apply bN | apply bD | refine bS ?_ GE219.out) | exact HB.out)⟩⟩
  case rest =>
   clear HC9
   try clear c1
   try clear p2
   try clear c4
   try clear c5
   try clear c5b0
   try clear c5b1
   try clear c13
   try clear c13b0
   try clear c13b1
   try clear hcz11_0
   try clear hcz11_1
   try clear hcz11_2
   try clear hcz7_0
   try clear hcz7_1
   try clear hcz7_2
   try clear hfz11_0
   try clear hfz11_1
   try clear hfz11_2
   try clear hfz7_0
   try clear hfz7_1
   try clear hfz7_2
   obtain ⟨kq, x21_8, rfl, HA, HJ8, BK219, HB⟩ := hcut
   cases kq with
   | zero => exact absurd HA.out (by simp [codewrightref04_Pow.j0])
   | succ kj8 =>
    have H := HA.out
    clear HA
    simp only [codewrightref04_Pow.j0] at H
    by_cases c14 : x21_8 = true
    ·subst c14
     have H1 : (some (0, 7)) = some (r1, r2) := by rw [if_pos rfl] at H; exact H
     clear H
     have H := H1
     clear H1
     simp only [Option.some.injEq, Prod.mk.injEq] at H
     obtain ⟨rfl, rfl⟩ := H
     go_wp2
     go_ret2
     exact ⟨by first | rfl | (simp [eN, eS] <;> rfl) | (simp [*, eN, eS] <;> rfl), by repeat (first | (with_reducible first | exact HB.out | apply bA | apply bN | apply bD | refine bS ?_ GE219.out) | exact HB.out)⟩
    ·replace c14 := Bool.eq_false_iff.mpr c14
     subst c14
     have H1 : (if t220 = 0 then (some (0, 0)) else ((codewrightref04_Order.f kj8 a0_0 a0_1 l0_2).bind fun t221 => (if (wrap64 (t221 - 1)) = 0 then (none) else (codewrightref04_Pow.l0 kj8 t220 (Int.tmod (wrap64 ((Int.tmod a2 (wrap64 (t221 - 1))) + (wrap64 (t221 - 1)))) (wrap64 (t221 - 1))) 1 0 a0_0 a0_1 l0_2)))) = some (r1, r2) := by rw [if_neg (show ¬ (false = true) by decide)] at H; exact H
     clear H
     have H := H1
     clear H1
     by_cases c15 : t220 = 0
     ·rw [if_pos c15] at H
      have c15b0 : (t220 == 0) = true := beq_iff_eq.mpr c15
      have c15b1 : (t220 != 0) = false := bne_eq_false_iff_eq.mpr c15
      clear c15
      simp only [Option.some.injEq, Prod.mk.injEq] at H
      obtain ⟨rfl, rfl⟩ := H
      go_wp2
      go_ret2
      exact ⟨by first | rfl | (simp [eN, eS] <;> rfl) | (simp [*, eN, eS] <;> rfl), by repeat (first | (with_reducible first | exact HB.out | apply bA | apply bN | apply bD | refine bS ?_ GE219.out) | exact HB.out)⟩
     ·rw [if_neg c15] at H
      have c15b0 : (t220 == 0) = false := beq_eq_false_iff_ne.mpr c15
      have c15b1 : (t220 != 0) = true := bne_iff_ne.mpr c15
      replace H := Option.bind_eq_some_iff.mp H
      obtain ⟨t221, A160, H⟩ := H
      replace H : (if (wrap64 (t221 - 1)) = 0 then (none) else (codewrightref04_Pow.l0 kj8 t220 (Int.tmod (wrap64 ((Int.tmod a2 (wrap64 (t221 - 1))) + (wrap64 (t221 - 1)))) (wrap64 (t221 - 1))) 1 0 a0_0 a0_1 l0_2)) = some (r1, r2) := H
      have A16 := Aside0.mk A160
      clear A160
      by_cases c17 : (wrap64 (t221 - 1)) = 0
      ·rw [if_pos c17] at H
       exact absurd H (by simp)
      ·rw [if_neg c17] at H
       have c17b0 : ((wrap64 (t221 - 1)) == 0) = false := beq_eq_false_iff_ne.mpr c17
       have c17b1 : ((wrap64 (t221 - 1)) != 0) = true := bne_iff_ne.mpr c17
       have H' := Aside0.mk H
       clear H
       have hcz18_0 : wc.cell? ⟨gb219, 0, none⟩ = some (.int .i64 a0_0) := (kC BK219.out 0).trans rfl
       have hcz18_1 : wc.cell? ⟨gb219, 1, none⟩ = some (.int .i64 a0_1) := (kC BK219.out 1).trans rfl
       have hcz18_2 : wc.cell? ⟨gb219, 2, none⟩ = some (.slice A0_2 l0_2.length c0_2) := (kC BK219.out 2).trans rfl
       have hfz18_0 := kF BK219.out 0
       have hfz18_1 := kF BK219.out 1
       have hfz18_2 := kF BK219.out 2
       go_wp2_with (first | ((with_reducible refine gate_callee (f := 24) rfl ?_); refine goesL_ (some 25) rfl rfl Try.func24 (by kernel_rfl) rfl #[.agg #[.int .i64 a0_0, .int .i64 a0_1, .slice A0_2 l0_2.length c0_2]] rfl (by (try simp only [List.map_toArray, List.map_cons, List.map_nil]); first | done | rfl | (simp only [List.length_drop, List.length_take]; rfl)) ?_; (with_reducible refine (codewrightref04_Order.calls kj8 a0_0 a0_1 _ _ l0_2 t221 _ ?side1 ?side2 A16.out).mono ?_); (case side1 => repeat (first | exact (Kd.C_below HR0_2.out HB.out) | (with_reducible refine Kd.C_alloc ?_ _) | (with_reducible refine Kd.C_drewN ?_ _) | (with_reducible refine Kd.C_drew ?_))); (case side2 => exact HC0_2.out); rintro e w19 ⟨rfl, hb⟩; refine ⟨_, rfl, ?_⟩; have n0_ := Aside0.mk (kB (g := gb219) (o := .cells #[.int .i64 a0_0, .int .i64 a0_1, .slice A0_2 l0_2.length c0_2] 24 (0, 0)) (by (with_reducible repeat (first | refine kN ?_ _ | refine kD ?_ | refine kA ?_ _)); exact BK219.out) hb); have n1_ := Aside0.mk (bP (by repeat (first | (with_reducible first | exact HB.out | apply bA | apply bN | apply bD | refine bS ?_ GE219.out) | exact HB.out)) hb); clear BK219; clear HB; have BK219 := n0_; have HB := n1_; clear n0_ n1_; (try clear hb); (try clear hb2); (try clear hk); (try clear hi)))
       go_loopg [9, 10] kj8 (fun kq v9 v10 w' => ∃ (x9_2 : Int) (x10_2 : Int), v9 = .int .i64 x9_2 ∧ v10 = .int .i64 x10_2 ∧ Aside0 (codewrightref04_Pow.l0 kq t220 (Int.tmod (wrap64 ((Int.tmod a2 (wrap64 (t221 - 1))) + (wrap64 (t221 - 1)))) (wrap64 (t221 - 1))) x9_2 x10_2 a0_0 a0_1 l0_2 = some (r1, r2)) ∧ Aside0 (kq ≤ kj8) ∧ Aside0 (w'.heap[gb219]? = some (.cells #[.int .i64 a0_0, .int .i64 a0_1, (.slice A0_2 l0_2.length c0_2)] 24 (0, 0))) ∧ Aside0 (Below w.heap.size w w'))
       case atStart => exact ⟨(1), (0), (by first | rfl | (simp; done) | (simp [*]; done)), (by first | rfl | (simp; done) | (simp [*]; done)), H', ⟨Nat.le_refl _⟩, ⟨by (with_reducible repeat (first | refine kN ?_ _ | refine kD ?_ | refine kA ?_ _)); exact BK219.out⟩, ⟨by repeat (first | (with_reducible first | exact HB.out | apply bA | apply bN | apply bD | refine bS ?_ GE219.out) | exact HB.out)⟩⟩
       case round =>
        clear H'
        try clear c1
        try clear c2
        try clear p2
        try clear c4
        try clear c5
        try clear c5b0
        try clear c5b1
        try clear p6
        try clear c13
        try clear c13b0
        try clear c13b1
        try clear c14
        try clear c15
        try clear c15b0
        try clear c15b1
        try clear c17
        try clear c17b0
        try clear c17b1
        try clear c19
        try clear hcz11_0
        try clear hcz11_1
        try clear hcz11_2
        try clear hcz18_0
        try clear hcz18_1
        try clear hcz18_2
        try clear hcz7_0
        try clear hcz7_1
        try clear hcz7_2
        try clear hfz11_0
        try clear hfz11_1
        try clear hfz11_2
        try clear hfz18_0
        try clear hfz18_1
        try clear hfz18_2
        try clear hfz7_0
        try clear hfz7_1
        try clear hfz7_2
        try clear p2
        obtain ⟨x9_2, x10_2, rfl, rfl, HA, HK2, BK219, HB⟩ := hrel
        cases gk with
        | zero => exact absurd HA.out (by simp [codewrightref04_Pow.l0])
        | succ k2 =>
         have H := HA.out
         clear HA
         simp only [codewrightref04_Pow.l0] at H
         by_cases c20 : x10_2 < (Int.tmod (wrap64 ((Int.tmod a2 (wrap64 (t221 - 1))) + (wrap64 (t221 - 1)))) (wrap64 (t221 - 1)))
         ·rw [if_pos c20] at H
          have c20b0 : decide (x10_2 < (Int.tmod (wrap64 ((Int.tmod a2 (wrap64 (t221 - 1))) + (wrap64 (t221 - 1)))) (wrap64 (t221 - 1)))) = true := decide_eq_true c20
          clear c20
          replace H := Option.bind_eq_some_iff.mp H
          obtain ⟨t222, A210, H⟩ := H
          replace H : (codewrightref04_Pow.l0 k2 t220 (Int.tmod (wrap64 ((Int.tmod a2 (wrap64 (t221 - 1))) + (wrap64 (t221 - 1)))) (wrap64 (t221 - 1))) t222 (wrap64 (x10_2 + 1)) a0_0 a0_1 l0_2) = some (r1, r2) := H
          have A21 := Aside0.mk A210
          clear A210
          have H' := Aside0.mk H
          clear H
          have hcz22_0 : wr.cell? ⟨gb219, 0, none⟩ = some (.int .i64 a0_0) := (kC BK219.out 0).trans rfl
          have hcz22_1 : wr.cell? ⟨gb219, 1, none⟩ = some (.int .i64 a0_1) := (kC BK219.out 1).trans rfl
          have hcz22_2 : wr.cell? ⟨gb219, 2, none⟩ = some (.slice A0_2 l0_2.length c0_2) := (kC BK219.out 2).trans rfl
          have hfz22_0 := kF BK219.out 0
          have hfz22_1 := kF BK219.out 1
          have hfz22_2 := kF BK219.out 2
          go_wp2_with (first | ((with_reducible refine gate_callee (f := 18) rfl ?_); refine goesL_ (some 42) rfl rfl Try.func18 (by kernel_rfl) rfl #[.agg #[.int .i64 a0_0, .int .i64 a0_1, .slice A0_2 l0_2.length c0_2], .int .i64 x9_2, .int .i64 t220] rfl (by (try simp only [List.map_toArray, List.map_cons, List.map_nil]); first | done | rfl | (simp only [List.length_drop, List.length_take]; rfl)) ?_; (with_reducible refine (codewrightref04_Mul.calls k2 a0_0 a0_1 _ _ l0_2 x9_2 t220 t222 _ ?side1 ?side2 A21.out).mono ?_); (case side1 => repeat (first | exact (Kd.C_below HR0_2.out HB.out) | (with_reducible refine Kd.C_alloc ?_ _) | (with_reducible refine Kd.C_drewN ?_ _) | (with_reducible refine Kd.C_drew ?_))); (case side2 => exact HC0_2.out); rintro e w23 ⟨rfl, hb⟩; refine ⟨_, rfl, ?_⟩; have n0_ := Aside0.mk (kB (g := gb219) (o := .cells #[.int .i64 a0_0, .int .i64 a0_1, .slice A0_2 l0_2.length c0_2] 24 (0, 0)) (by (with_reducible repeat (first | refine kN ?_ _ | refine kD ?_ | refine kA ?_ _)); exact BK219.out) hb); have n1_ := Aside0.mk (bP (by repeat (first | (with_reducible first | exact HB.out | apply bA | apply bN | apply bD | refine bS ?_ GE219.out) | exact HB.out)) hb); clear BK219; clear HB; have BK219 := n0_; have HB := n1_; clear n0_ n1_; (try clear hb); (try clear hb2); (try clear hk); (try clear hi)))
          go_roundg k2
          case measure => have := HJ8.out; have := HK2.out; omega
          case rel => exact ⟨(t222), (wrap64 (x10_2 + 1)), (by first | rfl | (simp; done) | (simp [*]; done)), (by first | rfl | (simp; done) | (simp [*]; done)), H', ⟨by have := HJ8.out; have := HK2.out; omega⟩, ⟨by (with_reducible repeat (first | refine kN ?_ _ | refine kD ?_ | refine kA ?_ _)); exact BK219.out⟩, ⟨by repeat (first | (with_reducible first | exact HB.out | apply bA | apply bN | apply bD | refine bS ?_ GE219.out) | exact HB.out)⟩⟩
         ·rw [if_neg c20] at H
          have c20b0 : decide (x10_2 < (Int.tmod (wrap64 ((Int.tmod a2 (wrap64 (t221 - 1))) + (wrap64 (t221 - 1)))) (wrap64 (t221 - 1)))) = false := decide_eq_false c20
          clear c20
          simp only [Option.some.injEq, Prod.mk.injEq] at H
          obtain ⟨rfl, rfl⟩ := H
          go_wp2
          go_ret2
          exact ⟨by first | rfl | (simp [eN, eS] <;> rfl) | (simp [*, eN, eS] <;> rfl), by repeat (first | (with_reducible first | exact HB.out | apply bA | apply bN | apply bD | refine bS ?_ GE219.out) | exact HB.out)⟩
def codewrightref07_Frobenius.l0 : Nat → Int → Int → Int → Int → Int → List Int → Option (Int)
 | 0, _, _, _, _, _, _ => none
 | k + 1, x1, x2, x7, x224000, x224001, x224002 => if x7 < x2 then ((codewrightref04_Pow.f k x224000 x224001 x224002 x1 x224000).bind fun bt225 => (codewrightref07_Frobenius.l0 k bt225.1 x2 (wrap64 (x7 + 1)) x224000 x224001 x224002)) else (some x1)
def codewrightref07_Frobenius.f (k : Nat) (a0_0 : Int) (a0_1 : Int) (l0_2 : List Int) (a1 : Int) (a2 : Int) : Option (Int) := (codewrightref04_In.f k a0_0 a0_1 l0_2 a1).bind fun t224 => (codewrightref07_Frobenius.l0 k t224 a2 0 a0_0 a0_1 l0_2)
set_option maxHeartbeats 8000000 in
set_option maxRecDepth 100000 in
theorem codewrightref07_Frobenius.calls (k : Nat) (a0_0 : Int) (a0_1 : Int) (A0_2 : Option Addr) (c0_2 : Nat) (l0_2 : List Int) (a1 : Int) (a2 : Int) (r : Int) (w : World) (hr0_2 : Kd.C (Kd.int .i64) w A0_2 l0_2.length l0_2) (hc0_2 : l0_2.length ≤ c0_2) (h : codewrightref07_Frobenius.f k a0_0 a0_1 l0_2 a1 a2 = some r) :
  Calls Try.prog 16 #[.agg #[.int .i64 a0_0, .int .i64 a0_1, .slice A0_2 l0_2.length c0_2], .int .i64 a1, .int .i64 a2] w fun e w' => e = .returned (.int .i64 r) ∧ Below w.heap.size w w' := by
 have hu24 := Try.underlying24
 have HR0_2 := Aside0.mk hr0_2
 have HC0_2 := Aside0.mk hc0_2
 clear hr0_2 hc0_2
 have HB := Aside0.mk (Below.refl w.heap.size w)
 have H : ((codewrightref04_In.f k a0_0 a0_1 l0_2 a1).bind fun t224 => (codewrightref07_Frobenius.l0 k t224 a2 0 a0_0 a0_1 l0_2)) = some r := h
 clear h
 replace H := Option.bind_eq_some_iff.mp H
 obtain ⟨t224, A40, H⟩ := H
 replace H : (codewrightref07_Frobenius.l0 k t224 a2 0 a0_0 a0_1 l0_2) = some r := H
 have A4 := Aside0.mk A40
 clear A40
 have H' := Aside0.mk H
 clear H
 go_enter Try.func16, Try.ntmps16
 go_wp2_with (first | ((with_reducible refine gate_dst (N := 3) rfl ?_); refine box_event ?hg (N := 3) ?hd (cs := #[.int .i64 a0_0, .int .i64 a0_1, .slice A0_2 l0_2.length c0_2]) (t := 24) ?hr ?_; (case hd => rfl); (case hg => rfl); (case hr => first | (go_simp; done) | (go_simp; rfl)); intro gb223 hg w5 hbox hb; have n0_ := Aside0.mk (bP (by repeat (first | (with_reducible first | exact HB.out | apply bA | apply bN | apply bD) | exact HB.out)) hb); have n1_ := Aside0.mk (hbox); have n2_ := Aside0.mk ((by rw [hg]; exact (bZ (by repeat (first | (with_reducible first | exact HB.out | apply bA | apply bN | apply bD) | exact HB.out))) : w.heap.size ≤ gb223)); have n3_ := Aside0.mk ((by rw [hg]; exact (bZ (by repeat (first | (with_reducible first | exact HB.out | apply bA | apply bN | apply bD) | exact HB.out))) : w.heap.size ≤ gb223)); clear HB; have HB := n0_; have BK223 := n1_; have GW223 := n2_; have GE223 := n3_; clear n0_ n1_ n2_ n3_; clear hb hbox hg; have hcz6_0 : w5.cell? ⟨gb223, 0, none⟩ = some (.int .i64 a0_0) := (kC BK223.out 0).trans rfl; have hcz6_1 : w5.cell? ⟨gb223, 1, none⟩ = some (.int .i64 a0_1) := (kC BK223.out 1).trans rfl; have hcz6_2 : w5.cell? ⟨gb223, 2, none⟩ = some (.slice A0_2 l0_2.length c0_2) := (kC BK223.out 2).trans rfl; have hfz6_0 := kF BK223.out 0; have hfz6_1 := kF BK223.out 1; have hfz6_2 := kF BK223.out 2) | ((with_reducible refine gate_callee (f := 19) rfl ?_); refine goesL_ (some 10) rfl rfl Try.func19 (by kernel_rfl) rfl #[.agg #[.int .i64 a0_0, .int .i64 a0_1, .slice A0_2 l0_2.length c0_2], .int .i64 a1] rfl (by (try simp only [List.map_toArray, List.map_cons, List.map_nil]); first | done | rfl | (simp only [List.length_drop, List.length_take]; rfl)) ?_; (with_reducible refine (codewrightref04_In.calls k a0_0 a0_1 _ _ l0_2 a1 t224 _ ?side1 ?side2 A4.out).mono ?_); (case side1 => repeat (first | exact (Kd.C_below HR0_2.out HB.out) | (with_reducible refine Kd.C_alloc ?_ _) | (with_reducible refine Kd.C_drewN ?_ _) | (with_reducible refine Kd.C_drew ?_))); (case side2 => exact HC0_2.out); rintro e w7 ⟨rfl, hb⟩; refine ⟨_, rfl, ?_⟩; have n0_ := Aside0.mk (kB (g := gb223) (o := .cells #[.int .i64 a0_0, .int .i64 a0_1, .slice A0_2 l0_2.length c0_2] 24 (0, 0)) (by (with_reducible repeat (first | refine kN ?_ _ | refine kD ?_ | refine kA ?_ _)); exact BK223.out) hb); have n1_ := Aside0.mk (bP (by repeat (first | (with_reducible first | exact HB.out | apply bA | apply bN | apply bD | refine bS ?_ GE223.out) | exact HB.out)) hb); clear BK223; clear HB; have BK223 := n0_; have HB := n1_; clear n0_ n1_; (try clear hb); (try clear hb2); (try clear hk); (try clear hi)))
 go_loopg [1, 7] k (fun kq v1 v7 w' => ∃ (x1_1 : Int) (x7_1 : Int), v1 = .int .i64 x1_1 ∧ v7 = .int .i64 x7_1 ∧ Aside0 (codewrightref07_Frobenius.l0 kq x1_1 a2 x7_1 a0_0 a0_1 l0_2 = some r) ∧ Aside0 (kq ≤ k) ∧ Aside0 (w'.heap[gb223]? = some (.cells #[.int .i64 a0_0, .int .i64 a0_1, (.slice A0_2 l0_2.length c0_2)] 24 (0, 0))) ∧ Aside0 (Below w.heap.size w w'))
 case atStart => exact ⟨(t224), (0), (by first | rfl | (simp; done) | (simp [*]; done)), (by first | rfl | (simp; done) | (simp [*]; done)), H', ⟨Nat.le_refl _⟩, ⟨by (with_reducible repeat (first | refine kN ?_ _ | refine kD ?_ | refine kA ?_ _)); exact BK223.out⟩, ⟨by repeat (first | (with_reducible first | exact HB.out | apply bA | apply bN | apply bD | refine bS ?_ GE223.out) | exact HB.out)⟩⟩
 case round =>
  clear H'
  try clear c1
  try clear p2
  try clear hcz6_0
  try clear hcz6_1
  try clear hcz6_2
  try clear hfz6_0
  try clear hfz6_1
  try clear hfz6_2
  obtain ⟨x1_1, x7_1, rfl, rfl, HA, HK1, BK223, HB⟩ := hrel
  cases gk with
  | zero => exact absurd HA.out (by simp [codewrightref07_Frobenius.l0])
  | succ k1 =>
   have H := HA.out
   clear HA
   simp only [codewrightref07_Frobenius.l0] at H
   by_cases c8 : x7_1 < a2
   ·rw [if_pos c8] at H
    have c8b0 : decide (x7_1 < a2) = true := decide_eq_true c8
    clear c8
    replace H := Option.bind_eq_some_iff.mp H
    obtain ⟨⟨t225, t226⟩, A90, H⟩ := H
    replace H : (codewrightref07_Frobenius.l0 k1 t225 a2 (wrap64 (x7_1 + 1)) a0_0 a0_1 l0_2) = some r := H
    have A9 := Aside0.mk A90
    clear A90
    have H' := Aside0.mk H
    clear H
    have hcz10_0 : wr.cell? ⟨gb223, 0, none⟩ = some (.int .i64 a0_0) := (kC BK223.out 0).trans rfl
    have hcz10_1 : wr.cell? ⟨gb223, 1, none⟩ = some (.int .i64 a0_1) := (kC BK223.out 1).trans rfl
    have hcz10_2 : wr.cell? ⟨gb223, 2, none⟩ = some (.slice A0_2 l0_2.length c0_2) := (kC BK223.out 2).trans rfl
    have hfz10_0 := kF BK223.out 0
    have hfz10_1 := kF BK223.out 1
    have hfz10_2 := kF BK223.out 2
    go_wp2_with (first | ((with_reducible refine gate_callee (f := 42) rfl ?_); refine goesL_ (some 21) rfl rfl Try.func42 (by kernel_rfl) rfl #[.agg #[.int .i64 a0_0, .int .i64 a0_1, .slice A0_2 l0_2.length c0_2], .int .i64 x1_1, .int .i64 a0_0] rfl (by (try simp only [List.map_toArray, List.map_cons, List.map_nil]); first | done | rfl | (simp only [List.length_drop, List.length_take]; rfl)) ?_; (with_reducible refine (codewrightref04_Pow.calls k1 a0_0 a0_1 _ _ l0_2 x1_1 a0_0 t225 t226 _ ?side1 ?side2 A9.out).mono ?_); (case side1 => repeat (first | exact (Kd.C_below HR0_2.out HB.out) | (with_reducible refine Kd.C_alloc ?_ _) | (with_reducible refine Kd.C_drewN ?_ _) | (with_reducible refine Kd.C_drew ?_))); (case side2 => exact HC0_2.out); rintro e w11 ⟨rfl, hb⟩; refine ⟨_, rfl, ?_⟩; have n0_ := Aside0.mk (kB (g := gb223) (o := .cells #[.int .i64 a0_0, .int .i64 a0_1, .slice A0_2 l0_2.length c0_2] 24 (0, 0)) (by (with_reducible repeat (first | refine kN ?_ _ | refine kD ?_ | refine kA ?_ _)); exact BK223.out) hb); have n1_ := Aside0.mk (bP (by repeat (first | (with_reducible first | exact HB.out | apply bA | apply bN | apply bD | refine bS ?_ GE223.out) | exact HB.out)) hb); clear BK223; clear HB; have BK223 := n0_; have HB := n1_; clear n0_ n1_; (try clear hb); (try clear hb2); (try clear hk); (try clear hi)))
    go_roundg k1
    case measure => have := HK1.out; omega
    case rel => exact ⟨(t225), (wrap64 (x7_1 + 1)), (by first | rfl | (simp; done) | (simp [*]; done)), (by first | rfl | (simp; done) | (simp [*]; done)), H', ⟨by have := HK1.out; omega⟩, ⟨by (with_reducible repeat (first | refine kN ?_ _ | refine kD ?_ | refine kA ?_ _)); exact BK223.out⟩, ⟨by repeat (first | (with_reducible first | exact HB.out | apply bA | apply bN | apply bD | refine bS ?_ GE223.out) | exact HB.out)⟩⟩
   ·rw [if_neg c8] at H
    have c8b0 : decide (x7_1 < a2) = false := decide_eq_false c8
    clear c8
    obtain rfl := Option.some.inj H
    go_wp2
    go_ret
    exact ⟨by first | rfl | (simp [eN, eS] <;> rfl) | (simp [*, eN, eS] <;> rfl), by repeat (first | (with_reducible first | exact HB.out | apply bA | apply bN | apply bD | refine bS ?_ GE223.out) | exact HB.out)⟩
def codewrightref04_Add.l0 : Nat → List Int → List Int → Int → Int → Int → List Int → Option (Int)
 | 0, _, _, _, _, _, _ => none
 | k + 1, x7, x8, x9, x229000, x229001, x229002 => if x9 < (x7.length : Int) then (if 0 ≤ x9 then (if x9 < (x8.length : Int) then (if x229000 = 0 then (none) else (codewrightref04_Add.l0 k (x7.set (x9 : Int).toNat (Int.tmod (wrap64 ((rd x7 x9) + (rd x8 x9))) x229000)) x8 (wrap64 (x9 + 1)) x229000 x229001 x229002)) else (none)) else (none)) else ((codewrightref04_Value.f k x229000 x229001 x229002 x7).bind fun t238 => (some t238))
def codewrightref04_Add.f (k : Nat) (a0_0 : Int) (a0_1 : Int) (l0_2 : List Int) (a1 : Int) (a2 : Int) : Option (Int) := (codewrightref04_Digits.f k a0_0 a0_1 l0_2 a1).bind fun t229 => ((codewrightref04_Digits.f k a0_0 a0_1 l0_2 a2).bind fun t232 => (codewrightref04_Add.l0 k t229 t232 0 a0_0 a0_1 l0_2))
def codewrightref04_Add.T6 : Bool × List (List Nat × List Nat) := (true, [([], []), ([], []), ([], []), ([], []), ([2, 3], [2, 3]), ([4], [4]), ([], []), ([], []), ([6, 7], [6, 7]), ([8], [8]), ([5, 9], [5, 9]), ([], []), ([11], [11]), ([10, 12], [10, 12]), ([0, 1, 0, 1, 2, 3, 4, 5, 6, 7, 8, 9, 10, 11, 12, 13], [0, 1]), ([14, 13, 0, 1, 2, 3, 4, 5, 6, 7, 8, 9, 10, 11, 12, 13], [13, 14])])
def codewrightref04_Add.B6 : List Nat := [0, 0, 0, 0, 12, 28, 0, 0, 192, 448, 1020, 0, 2048, 8188, 16383, 32767]
theorem codewrightref04_Add.tab6 : rtab .any (opsOf Try.f17 6) = codewrightref04_Add.T6 := by kernel_rfl
theorem codewrightref04_Add.bits6 : waitsOk codewrightref04_Add.T6.2 codewrightref04_Add.B6 = true := by kernel_rfl
set_option maxHeartbeats 8000000 in
set_option maxRecDepth 100000 in
theorem codewrightref04_Add.calls (k : Nat) (a0_0 : Int) (a0_1 : Int) (A0_2 : Option Addr) (c0_2 : Nat) (l0_2 : List Int) (a1 : Int) (a2 : Int) (r : Int) (w : World) (hr0_2 : Kd.C (Kd.int .i64) w A0_2 l0_2.length l0_2) (hc0_2 : l0_2.length ≤ c0_2) (h : codewrightref04_Add.f k a0_0 a0_1 l0_2 a1 a2 = some r) :
  Calls Try.prog 17 #[.agg #[.int .i64 a0_0, .int .i64 a0_1, .slice A0_2 l0_2.length c0_2], .int .i64 a1, .int .i64 a2] w fun e w' => e = .returned (.int .i64 r) ∧ Below w.heap.size w w' := by
 have hu24 := Try.underlying24
 have HR0_2 := Aside0.mk hr0_2
 have HC0_2 := Aside0.mk hc0_2
 clear hr0_2 hc0_2
 have HB := Aside0.mk (Below.refl w.heap.size w)
 have H : ((codewrightref04_Digits.f k a0_0 a0_1 l0_2 a1).bind fun t229 => ((codewrightref04_Digits.f k a0_0 a0_1 l0_2 a2).bind fun t232 => (codewrightref04_Add.l0 k t229 t232 0 a0_0 a0_1 l0_2))) = some r := h
 clear h
 replace H := Option.bind_eq_some_iff.mp H
 obtain ⟨t229, A40, H⟩ := H
 replace H : ((codewrightref04_Digits.f k a0_0 a0_1 l0_2 a2).bind fun t232 => (codewrightref04_Add.l0 k t229 t232 0 a0_0 a0_1 l0_2)) = some r := H
 have A4 := Aside0.mk A40
 clear A40
 replace H := Option.bind_eq_some_iff.mp H
 obtain ⟨t232, A50, H⟩ := H
 replace H : (codewrightref04_Add.l0 k t229 t232 0 a0_0 a0_1 l0_2) = some r := H
 have A5 := Aside0.mk A50
 clear A50
 have H' := Aside0.mk H
 clear H
 go_enter Try.func17, Try.ntmps17
 go_wp2_with (first | ((with_reducible refine gate_dst (N := 3) rfl ?_); refine box_event ?hg (N := 3) ?hd (cs := #[.int .i64 a0_0, .int .i64 a0_1, .slice A0_2 l0_2.length c0_2]) (t := 24) ?hr ?_; (case hd => rfl); (case hg => rfl); (case hr => first | (go_simp; done) | (go_simp; rfl)); intro gb228 hg w6 hbox hb; have n0_ := Aside0.mk (bP (by repeat (first | (with_reducible first | exact HB.out | apply bA | apply bN | apply bD) | exact HB.out)) hb); have n1_ := Aside0.mk (hbox); have n2_ := Aside0.mk ((by rw [hg]; exact (bZ (by repeat (first | (with_reducible first | exact HB.out | apply bA | apply bN | apply bD) | exact HB.out))) : w.heap.size ≤ gb228)); have n3_ := Aside0.mk ((by rw [hg]; exact (bZ (by repeat (first | (with_reducible first | exact HB.out | apply bA | apply bN | apply bD) | exact HB.out))) : w.heap.size ≤ gb228)); clear HB; have HB := n0_; have BK228 := n1_; have GW228 := n2_; have GE228 := n3_; clear n0_ n1_ n2_ n3_; clear hb hbox hg; have hcz7_0 : w6.cell? ⟨gb228, 0, none⟩ = some (.int .i64 a0_0) := (kC BK228.out 0).trans rfl; have hcz7_1 : w6.cell? ⟨gb228, 1, none⟩ = some (.int .i64 a0_1) := (kC BK228.out 1).trans rfl; have hcz7_2 : w6.cell? ⟨gb228, 2, none⟩ = some (.slice A0_2 l0_2.length c0_2) := (kC BK228.out 2).trans rfl; have hfz7_0 := kF BK228.out 0; have hfz7_1 := kF BK228.out 1; have hfz7_2 := kF BK228.out 2) | ((with_reducible refine gate_callee (f := 43) rfl ?_); refine goesL_ (some 12) rfl rfl Try.func43 (by kernel_rfl) rfl #[.agg #[.int .i64 a0_0, .int .i64 a0_1, .slice A0_2 l0_2.length c0_2], .int .i64 a1] rfl (by (try simp only [List.map_toArray, List.map_cons, List.map_nil]); first | done | rfl | (simp only [List.length_drop, List.length_take]; rfl)) ?_; (with_reducible refine (codewrightref04_Digits.calls k a0_0 a0_1 _ _ l0_2 a1 t229 _ ?side1 ?side2 A4.out).mono ?_); (case side1 => repeat (first | exact (Kd.C_below HR0_2.out HB.out) | (with_reducible refine Kd.C_alloc ?_ _) | (with_reducible refine Kd.C_drewN ?_ _) | (with_reducible refine Kd.C_drew ?_))); (case side2 => exact HC0_2.out); rintro e w8 ⟨v230, rfl, ho0, hb⟩; refine ⟨_, rfl, ?_⟩; have n0_ := Aside0.mk (Kd.R_lower ho0 (bZ (by repeat (first | (with_reducible first | exact HB.out | apply bA | apply bN | apply bD | refine bS ?_ GE228.out) | exact HB.out)))); have n1_ := Aside0.mk (kB (g := gb228) (o := .cells #[.int .i64 a0_0, .int .i64 a0_1, .slice A0_2 l0_2.length c0_2] 24 (0, 0)) (by (with_reducible repeat (first | refine kN ?_ _ | refine kD ?_ | refine kA ?_ _)); exact BK228.out) hb); have n2_ := Aside0.mk (bP (by repeat (first | (with_reducible first | exact HB.out | apply bA | apply bN | apply bD | refine bS ?_ GE228.out) | exact HB.out)) hb); clear BK228; clear HB; have HO231 := n0_; have BK228 := n1_; have HB := n2_; clear n0_ n1_ n2_; (try clear hb); (try clear hb2); (try clear hk); (try clear hi); (try clear ho0); have hcz9_0 : w8.cell? ⟨gb228, 0, none⟩ = some (.int .i64 a0_0) := (kC BK228.out 0).trans rfl; have hcz9_1 : w8.cell? ⟨gb228, 1, none⟩ = some (.int .i64 a0_1) := (kC BK228.out 1).trans rfl; have hcz9_2 : w8.cell? ⟨gb228, 2, none⟩ = some (.slice A0_2 l0_2.length c0_2) := (kC BK228.out 2).trans rfl; have hfz9_0 := kF BK228.out 0; have hfz9_1 := kF BK228.out 1; have hfz9_2 := kF BK228.out 2) | ((with_reducible refine gate_callee (f := 43) rfl ?_); refine goesL_ (some 15) rfl rfl Try.func43 (by kernel_rfl) rfl #[.agg #[.int .i64 a0_0, .int .i64 a0_1, .slice A0_2 l0_2.length c0_2], .int .i64 a2] rfl (by (try simp only [List.map_toArray, List.map_cons, List.map_nil]); first | done | rfl | (simp only [List.length_drop, List.length_take]; rfl)) ?_; (with_reducible refine (codewrightref04_Digits.calls k a0_0 a0_1 _ _ l0_2 a2 t232 _ ?side1 ?side2 A5.out).mono ?_); (case side1 => repeat (first | exact (Kd.C_below HR0_2.out HB.out) | (with_reducible refine Kd.C_alloc ?_ _) | (with_reducible refine Kd.C_drewN ?_ _) | (with_reducible refine Kd.C_drew ?_))); (case side2 => exact HC0_2.out); rintro e w10 ⟨v233, rfl, ho0, hb⟩; refine ⟨_, rfl, ?_⟩; have n0_ := Aside0.mk (Kd.R_elder' (by (with_reducible repeat (first | apply Kd.R_alloc | apply Kd.R_drewN | apply Kd.R_drew)); exact HO231.out) (Kd.R_base ho0) hb); have n1_ := Aside0.mk (Kd.R_lower (Kd.R_new' ho0 (Kd.R_lt (by (with_reducible repeat (first | apply Kd.R_alloc | apply Kd.R_drewN | apply Kd.R_drew)); exact HO231.out))) (bZ (by repeat (first | (with_reducible first | exact HB.out | apply bA | apply bN | apply bD | refine bS ?_ GE228.out) | exact HB.out)))); have n2_ := Aside0.mk (kB (g := gb228) (o := .cells #[.int .i64 a0_0, .int .i64 a0_1, .slice A0_2 l0_2.length c0_2] 24 (0, 0)) (by (with_reducible repeat (first | refine kN ?_ _ | refine kD ?_ | refine kA ?_ _)); exact BK228.out) hb); have n3_ := Aside0.mk (bP (by repeat (first | (with_reducible first | exact HB.out | apply bA | apply bN | apply bD | refine bS ?_ GE228.out) | exact HB.out)) hb); clear HO231; clear BK228; clear HB; have HO231 := n0_; have HO234 := n1_; have BK228 := n2_; have HB := n3_; clear n0_ n1_ n2_ n3_; (try clear hb); (try clear hb2); (try clear hk); (try clear hi); (try clear ho0)))
 go_loopg [9] k (fun kq v9 w' => ∃ (x7_1 : List Int) (x9_1 : Int), v9 = .int .i64 x9_1 ∧ Aside0 (codewrightref04_Add.l0 kq x7_1 t232 x9_1 a0_0 a0_1 l0_2 = some r) ∧ Aside0 (kq ≤ k) ∧ Aside0 (Kd.R (Kd.int .i64) 3 w' w.heap.size (fun k_ => some k_ ≠ (v233 : Value).ownBlock) v230 x7_1) ∧ Aside0 (Kd.R (Kd.int .i64) 3 w' w.heap.size (fun k_ => some k_ ≠ (v230 : Value).ownBlock) v233 t232) ∧ Aside0 (w'.heap[gb228]? = some (.cells #[.int .i64 a0_0, .int .i64 a0_1, (.slice A0_2 l0_2.length c0_2)] 24 (0, 0))) ∧ Aside0 (Below w.heap.size w w'))
 case atStart => exact ⟨(t229), (0), (by first | rfl | (simp; done) | (simp [*]; done)), H', ⟨Nat.le_refl _⟩, ⟨by (with_reducible repeat (first | apply Kd.R_alloc | apply Kd.R_drewN | apply Kd.R_drew)); exact Kd.R_mono HO231.out (fun _ hk => hk.2)⟩, ⟨by (with_reducible repeat (first | apply Kd.R_alloc | apply Kd.R_drewN | apply Kd.R_drew)); exact Kd.R_mono HO234.out (fun _ hk => hk.2)⟩, ⟨by (with_reducible repeat (first | refine kN ?_ _ | refine kD ?_ | refine kA ?_ _)); exact BK228.out⟩, ⟨by repeat (first | (with_reducible first | exact HB.out | apply bA | apply bN | apply bD | refine bS ?_ GE228.out) | exact HB.out)⟩⟩
 case round =>
  clear H'
  try clear c1
  try clear p2
  try clear c4
  try clear hcz7_0
  try clear hcz7_1
  try clear hcz7_2
  try clear hcz9_0
  try clear hcz9_1
  try clear hcz9_2
  try clear hfz7_0
  try clear hfz7_1
  try clear hfz7_2
  try clear hfz9_0
  try clear hfz9_1
  try clear hfz9_2
  obtain ⟨x7_1, x9_1, rfl, HA, HK1, HO_7, HO_8, BK228, HB⟩ := hrel
  cases gk with
  | zero => exact absurd HA.out (by simp [codewrightref04_Add.l0])
  | succ k1 =>
   have H := HA.out
   clear HA
   simp only [codewrightref04_Add.l0] at H
   by_cases c11 : x9_1 < (x7_1.length : Int)
   ·rw [if_pos c11] at H
    have c11b0 : decide (x9_1 < (x7_1.length : Int)) = true := decide_eq_true c11
    clear c11
    by_cases c12 : 0 ≤ x9_1
    ·rw [if_pos c12] at H
     have c12b0 : decide (0 ≤ x9_1) = true := decide_eq_true c12
     clear c12
     by_cases c13 : x9_1 < (t232.length : Int)
     ·rw [if_pos c13] at H
      have c13b0 : decide (x9_1 < (t232.length : Int)) = true := decide_eq_true c13
      clear c13
      by_cases c14 : a0_0 = 0
      ·rw [if_pos c14] at H
       exact absurd H (by simp)
      ·rw [if_neg c14] at H
       have c14b0 : (a0_0 == 0) = false := beq_eq_false_iff_ne.mpr c14
       have c14b1 : (a0_0 != 0) = true := bne_iff_ne.mpr c14
       obtain ⟨y237, hy237⟩ : ∃ y_ : List Int, y_ = (x7_1.set (x9_1 : Int).toNat (Int.tmod (wrap64 ((rd x7_1 x9_1) + (rd t232 x9_1))) a0_0)) := ⟨_, rfl⟩
       replace H : (codewrightref04_Add.l0 k1 y237 t232 (wrap64 (x9_1 + 1)) a0_0 a0_1 l0_2) = some r := by first | (rw [hy237]; with_reducible exact H) | (have H2_ := (Option.bind_some _ _).symm.trans H; rw [hy237]; with_reducible exact H2_) | (have H2_ := (Option.bind_some _ _).symm.trans H; with_reducible exact H2_) | with_reducible exact H | (rw [hy237]; exact H) | exact H
       have Ny237 := Aside0.mk hy237
       clear hy237
       have H' := Aside0.mk H
       clear H
       obtain ⟨Ao16, co16, eo16⟩ := Kd.R_slice HO_7.out
       subst eo16
       try go_wp2
       have n0_ := Aside0.mk (Kd.R_drew HO_7.out)
       have n1_ := Aside0.mk (Kd.R_drew HO_8.out)
       have n2_ := Aside0.mk (kD BK228.out)
       have n3_ := Aside0.mk (bD HB.out)
       clear HO_7
       clear HO_8
       clear BK228
       clear HB
       have HO_7 := n0_
       have HO_8 := n1_
       have BK228 := n2_
       have HB := n3_
       clear n0_ n1_ n2_ n3_
       have p235 : 0 ≤ (x9_1 : Int) := of_decide_eq_true (by first | (with_reducible assumption) | assumption)
       have q235 : x9_1 < (x7_1.length : Int) := of_decide_eq_true (by first | (with_reducible assumption) | assumption)
       obtain ⟨ad235, e235, hx235_0⟩ := Kd.at_int (Kd.R_reads' HO_7.out).2.2 x9_1 p235 q235
       cases e235
       replace p235 := eq_true p235
       replace q235 := eq_true q235
       obtain ⟨Ao18, co18, eo18⟩ := Kd.R_slice HO_8.out
       (first | subst eo18 | (injection eo18 with f1_ f2_ f3_; have f4_ := f1_.symm; have f5_ := f3_.symm; clear f1_ f2_ f3_; subst f4_; subst f5_))
       have p236 : 0 ≤ (x9_1 : Int) := of_decide_eq_true (by first | (with_reducible assumption) | assumption)
       have q236 : x9_1 < (t232.length : Int) := of_decide_eq_true (by first | (with_reducible assumption) | assumption)
       obtain ⟨ad236, e236, hx236_0⟩ := Kd.at_int (Kd.R_reads' HO_8.out).2.2 x9_1 p236 q236
       cases e236
       replace p236 := eq_true p236
       replace q236 := eq_true q236
       have p15 : 0 ≤ (x9_1 : Int) := of_decide_eq_true (by first | (with_reducible assumption) | assumption)
       have q15 : (x9_1 : Int) < ((x7_1.length : Int) : Int) := of_decide_eq_true (by first | (with_reducible assumption) | assumption)
       obtain ⟨go15, co15, eo15, gb15, gl15, cl15, HG15⟩ := Kd.R_form HO_7.out (by omega)
       (first | cases eo15 | (injection eo15 with ea_ en_ ec_; (first | subst ea_ | (injection ea_ with ea_; subst ea_)); subst ec_; clear en_))
       have GB15 := Aside0.mk gb15
       have GG15 := Aside0.mk HG15
       clear gb15 gl15 HG15
       (first | simp only [add_plain] at hx235_0 | skip)
       obtain ⟨hx15_0, hf15_0⟩ := Kd.R_celln 0 HO_7.out (x9_1 : Int) p15 q15
       replace p15 := eq_true p15
       replace q15 := eq_true q15
       have HP19 := Kd.R_putn HO_7.out (x9_1 : Int) (Int.tmod (wrap64 ((rd x7_1 x9_1) + (rd t232 x9_1))) a0_0)
       rw [← Ny237.out] at HP19
       have HQ19 := Aside0.mk HP19
       clear HP19
       refine start_ (n := 16) (S := fun w' => w'.cell? ⟨gb228, 0, none⟩ = some (.int .i64 a0_0) ∧ w'.cell? ⟨gb228, 1, none⟩ = some (.int .i64 a0_1) ∧ w'.cell? ⟨gb228, 2, none⟩ = some (.slice A0_2 l0_2.length c0_2) ∧ w'.cell? ⟨go15, (x9_1).toNat, none⟩ = some (.int .i64 (rd x7_1 x9_1)) ∧ w'.cell? (ad236.add (x9_1).toNat) = some (.int .i64 (rd t232 x9_1))) (ds := [15]) #[false, false, false, false, false, false, false, false, false, false, false, false, false, false, false, false] (by kernel_rfl) rfl rfl ⟨(kC BK228.out 0).trans rfl, (kC BK228.out 1).trans rfl, (kC BK228.out 2).trans rfl, hx235_0, hx236_0⟩ (fun hHeld => ?_); refine with_tabW codewrightref04_Add.tab6 codewrightref04_Add.bits6 (fun HT_ HW_ => ?_)
       generalize wr.drew = w17 at HO_7 HO_8 BK228 HB GG15 HQ19 hf15_0 hx15_0 hx235_0 hx236_0 hHeld ⊢
       refine pure_ (i := 0) (N := some 22) (v := ?_) (a' := ?_) #[true, false, false, false, false, false, false, false, false, false, false, false, false, false, false, false] rfl rfl (any_of HT_.out (by kernel_rfl)) (fun _ _ _ h => h) (Or.inl ⟨by rfl, ?_⟩) ?_ ?_
       rotate_left
       ·intro w'
        go_simp
        with_reducible rfl
       rotate_left
       ·simp only [Act.put, List.setIfInBounds_toArray, List.set_cons_zero, List.set_cons_succ, i64_w, i32_w]
        rfl
       refine pure_ (i := 1) (N := some 23) (v := ?_) (a' := ?_) #[true, true, false, false, false, false, false, false, false, false, false, false, false, false, false, false] rfl rfl (any_of HT_.out (by kernel_rfl)) (fun _ _ _ h => h) (Or.inl ⟨by rfl, ?_⟩) ?_ ?_
       rotate_left
       ·intro w'
        go_simp
        with_reducible rfl
       rotate_left
       ·simp only [Act.put, List.setIfInBounds_toArray, List.set_cons_zero, List.set_cons_succ, i64_w, i32_w]
        rfl
       refine pure_ (i := 2) (N := some 24) (v := ?_) (a' := ?_) #[true, true, true, false, false, false, false, false, false, false, false, false, false, false, false, false] rfl rfl (any_of HT_.out (by kernel_rfl)) (fun _ _ _ h => h) (Or.inl ⟨by rfl, ?_⟩) ?_ ?_
       rotate_left
       ·intro w'
        go_simp
        with_reducible rfl
       rotate_left
       ·simp only [Act.put, List.setIfInBounds_toArray, List.set_cons_zero, List.set_cons_succ, i64_w, i32_w]
        rfl
       refine pure_ (i := 3) (N := some 25) (v := ?_) (a' := ?_) #[true, true, true, true, false, false, false, false, false, false, false, false, false, false, false, false] rfl rfl (any_of HT_.out (by kernel_rfl)) (fun _ _ _ h => h) (Or.inl ⟨by rfl, ?_⟩) ?_ ?_
       rotate_left
       ·intro w'
        go_simp
        with_reducible rfl
       rotate_left
       ·simp only [Act.put, List.setIfInBounds_toArray, List.set_cons_zero, List.set_cons_succ, i64_w, i32_w]
        rfl
       refine pure_ (i := 4) (N := some 26) (v := ?_) (a' := ?_) #[true, true, true, true, true, false, false, false, false, false, false, false, false, false, false, false] rfl rfl (any_of HT_.out (by kernel_rfl)) (fun _ _ _ h => h) (Or.inl ⟨by rfl, ?_⟩) ?_ ?_
       rotate_left
       ·intro w'
        go_simp
        with_reducible rfl
       rotate_left
       ·simp only [Act.put, List.setIfInBounds_toArray, List.set_cons_zero, List.set_cons_succ, i64_w, i32_w]
        rfl
       refine pure_ (i := 6) (N := some 28) (v := ?_) (a' := ?_) #[true, true, true, true, true, false, true, false, false, false, false, false, false, false, false, false] rfl rfl (any_of HT_.out (by kernel_rfl)) (fun _ _ _ h => h) (Or.inl ⟨by rfl, ?_⟩) ?_ ?_
       rotate_left
       ·intro w'
        go_simp
        with_reducible rfl
       rotate_left
       ·simp only [Act.put, List.setIfInBounds_toArray, List.set_cons_zero, List.set_cons_succ, i64_w, i32_w]
        rfl
       refine pure_ (i := 7) (N := some 29) (v := ?_) (a' := ?_) #[true, true, true, true, true, false, true, true, false, false, false, false, false, false, false, false] rfl rfl (any_of HT_.out (by kernel_rfl)) (fun _ _ _ h => h) (Or.inl ⟨by rfl, ?_⟩) ?_ ?_
       rotate_left
       ·intro w'
        go_simp
        with_reducible rfl
       rotate_left
       ·simp only [Act.put, List.setIfInBounds_toArray, List.set_cons_zero, List.set_cons_succ, i64_w, i32_w]
        rfl
       refine pure_ (i := 8) (N := some 30) (v := ?_) (a' := ?_) #[true, true, true, true, true, false, true, true, true, false, false, false, false, false, false, false] rfl rfl (any_of HT_.out (by kernel_rfl)) (fun _ _ _ h => h) (Or.inl ⟨by rfl, ?_⟩) ?_ ?_
       rotate_left
       ·intro w'
        go_simp
        with_reducible rfl
       rotate_left
       ·simp only [Act.put, List.setIfInBounds_toArray, List.set_cons_zero, List.set_cons_succ, i64_w, i32_w]
        rfl
       refine pure_ (i := 11) (N := some 33) (v := ?_) (a' := ?_) #[true, true, true, true, true, false, true, true, true, false, false, true, false, false, false, false] rfl rfl (any_of HT_.out (by kernel_rfl)) (fun _ _ _ h => h) (Or.inl ⟨by rfl, ?_⟩) ?_ ?_
       rotate_left
       ·intro w'
        go_simp
        with_reducible rfl
       rotate_left
       ·simp only [Act.put, List.setIfInBounds_toArray, List.set_cons_zero, List.set_cons_succ, i64_w, i32_w]
        rfl
       refine take_ (i := 5) (N := some 27) (v := ?_) (a' := ?_) #[true, true, true, true, true, true, true, true, true, false, false, true, false, false, false, false] rfl rfl (take_ofW HT_.out HW_.out (by kernel_rfl)) (fun _ _ _ h => h) (Or.inl ⟨by rfl, ?_⟩) hHeld ?_ ?_
       rotate_left
       ·rintro w' ⟨s0, s1, s2, s3, s4⟩
        go_simp
        with_reducible rfl
       rotate_left
       ·simp only [Act.put, List.setIfInBounds_toArray, List.set_cons_zero, List.set_cons_succ, i64_w, i32_w]
        rfl
       refine take_ (i := 9) (N := some 31) (v := ?_) (a' := ?_) #[true, true, true, true, true, true, true, true, true, true, false, true, false, false, false, false] rfl rfl (take_ofW HT_.out HW_.out (by kernel_rfl)) (fun _ _ _ h => h) (Or.inl ⟨by rfl, ?_⟩) hHeld ?_ ?_
       rotate_left
       ·rintro w' ⟨s0, s1, s2, s3, s4⟩
        go_simp
        with_reducible rfl
       rotate_left
       ·simp only [Act.put, List.setIfInBounds_toArray, List.set_cons_zero, List.set_cons_succ, i64_w, i32_w]
        rfl
       refine pure_ (i := 10) (N := some 32) (v := ?_) (a' := ?_) #[true, true, true, true, true, true, true, true, true, true, true, true, false, false, false, false] rfl rfl (any_of HT_.out (by kernel_rfl)) (fun _ _ _ h => h) (Or.inl ⟨by rfl, ?_⟩) ?_ ?_
       rotate_left
       ·intro w'
        go_simp
        with_reducible rfl
       rotate_left
       ·simp only [Act.put, List.setIfInBounds_toArray, List.set_cons_zero, List.set_cons_succ, i64_w, i32_w]
        rfl
       refine take_ (i := 12) (N := some 34) (v := ?_) (a' := ?_) #[true, true, true, true, true, true, true, true, true, true, true, true, true, false, false, false] rfl rfl (take_ofW HT_.out HW_.out (by kernel_rfl)) (fun _ _ _ h => h) (Or.inl ⟨by rfl, ?_⟩) hHeld ?_ ?_
       rotate_left
       ·rintro w' ⟨s0, s1, s2, s3, s4⟩
        go_simp
        with_reducible rfl
       rotate_left
       ·simp only [Act.put, List.setIfInBounds_toArray, List.set_cons_zero, List.set_cons_succ, i64_w, i32_w]
        rfl
       refine pure_ (i := 13) (N := some 35) (v := ?_) (a' := ?_) #[true, true, true, true, true, true, true, true, true, true, true, true, true, true, false, false] rfl rfl (any_of HT_.out (by kernel_rfl)) (fun _ _ _ h => h) (Or.inl ⟨by rfl, ?_⟩) ?_ ?_
       rotate_left
       ·intro w'
        go_simp
        with_reducible rfl
       rotate_left
       ·simp only [Act.put, List.setIfInBounds_toArray, List.set_cons_zero, List.set_cons_succ, i64_w, i32_w]
        rfl
       refine pure_ (i := 14) (N := some 36) (v := ?_) (a' := ?_) #[true, true, true, true, true, true, true, true, true, true, true, true, true, true, true, false] rfl rfl (any_of HT_.out (by kernel_rfl)) (fun _ _ _ h => h) (Or.inl ⟨by rfl, ?_⟩) ?_ ?_
       rotate_left
       ·intro w'
        go_simp
        with_reducible rfl
       rotate_left
       ·simp only [Act.put, List.setIfInBounds_toArray, List.set_cons_zero, List.set_cons_succ, i64_w, i32_w]
        rfl
       refine last_ (i := 15) (N := none) #[true, true, true, true, true, true, true, true, true, true, true, true, true, true, true, true] rfl rfl (one_of HT_.out (by kernel_rfl)) (by decide) (fun K hK => ?_)
       refine skip_ (w1 := ?_) (by rfl) rfl ?_ ?_
       rotate_left
       ·go_simp
        rfl
       refine hK.out _ _ ?_
       clear hK K
       refine done_ (done_of HT_.out (by kernel_rfl)) ?_
       try go_wp2
       go_roundg k1
       case measure => have := HK1.out; omega
       case rel => exact ⟨(y237), (wrap64 (x9_1 + 1)), (by first | rfl | (simp; done) | (simp [*]; done)), H', ⟨by have := HK1.out; omega⟩, ⟨by (with_reducible repeat (first | apply Kd.R_alloc | apply Kd.R_drewN | apply Kd.R_drew)); exact HQ19.out⟩, ⟨by (with_reducible repeat (first | apply Kd.R_alloc | apply Kd.R_drewN | apply Kd.R_drew)); exact Kd.R_mono (Kd.R_far (p := ⟨go15, (x9_1 : Int).toNat, none⟩) (Kd.R_mono HO_8.out (fun k_ hk => (⟨hk, fun e_ => hk (by rw [e_]; rfl)⟩ : _ ∧ k_ ≠ go15))) (fun _ hk => hk.2) (.int .i64 (Int.tmod (wrap64 ((rd x7_1 x9_1) + (rd t232 x9_1))) a0_0))) (fun _ hk => hk.1)⟩, ⟨by (with_reducible repeat (first | refine kN ?_ _ | refine kD ?_ | refine kA ?_ _)); refine blk_far ?_ (by have h_ := Kd.R_ne HO_7.out BK228.out (by decide); intro e_; exact h_ (by rw [e_]; rfl)) _; (with_reducible repeat (first | refine kN ?_ _ | refine kD ?_ | refine kA ?_ _)); exact BK228.out⟩, ⟨by repeat (first | (with_reducible first | exact HB.out | apply bA | apply bN | apply bD | refine bS ?_ GB15.out | refine bS ?_ GE228.out) | exact HB.out)⟩⟩
     ·rw [if_neg c13] at H
      exact absurd H (by simp)
    ·rw [if_neg c12] at H
     exact absurd H (by simp)
   ·rw [if_neg c11] at H
    have c11b0 : decide (x9_1 < (x7_1.length : Int)) = false := decide_eq_false c11
    clear c11
    replace H := Option.bind_eq_some_iff.mp H
    obtain ⟨t238, A200, H⟩ := H
    replace H : (some t238) = some r := H
    have A20 := Aside0.mk A200
    clear A200
    obtain rfl := Option.some.inj H
    obtain ⟨Ao21, co21, eo21⟩ := Kd.R_slice HO_7.out
    subst eo21
    have hcz22_0 : wr.cell? ⟨gb228, 0, none⟩ = some (.int .i64 a0_0) := (kC BK228.out 0).trans rfl
    have hcz22_1 : wr.cell? ⟨gb228, 1, none⟩ = some (.int .i64 a0_1) := (kC BK228.out 1).trans rfl
    have hcz22_2 : wr.cell? ⟨gb228, 2, none⟩ = some (.slice A0_2 l0_2.length c0_2) := (kC BK228.out 2).trans rfl
    have hfz22_0 := kF BK228.out 0
    have hfz22_1 := kF BK228.out 1
    have hfz22_2 := kF BK228.out 2
    go_wp2_with (first | ((with_reducible refine gate_callee (f := 44) rfl ?_); refine goesL_ (some 39) rfl rfl Try.func44 (by kernel_rfl) rfl #[.agg #[.int .i64 a0_0, .int .i64 a0_1, .slice A0_2 l0_2.length c0_2], .slice Ao21 x7_1.length co21] rfl (by (try simp only [List.map_toArray, List.map_cons, List.map_nil]); first | done | rfl | (simp only [List.length_drop, List.length_take]; rfl)) ?_; (with_reducible refine (codewrightref04_Value.calls k1 a0_0 a0_1 _ _ l0_2 _ _ x7_1 t238 _ ?side1 ?side2 ?side3 ?side4 A20.out).mono ?_); (case side1 => repeat (first | exact (Kd.C_below HR0_2.out HB.out) | (with_reducible refine Kd.C_alloc ?_ _) | (with_reducible refine Kd.C_drewN ?_ _) | (with_reducible refine Kd.C_drew ?_))); (case side2 => exact HC0_2.out); (case side3 => repeat (first | exact (Kd.R_reads' HO_7.out).2.2 | (with_reducible refine Kd.C_alloc ?_ _) | (with_reducible refine Kd.C_drewN ?_ _) | (with_reducible refine Kd.C_drew ?_))); (case side4 => exact (Kd.R_reads' HO_7.out).2.1); rintro e w23 ⟨rfl, hb⟩; refine ⟨_, rfl, ?_⟩; have n0_ := Aside0.mk (Kd.R_below (by (with_reducible repeat (first | apply Kd.R_alloc | apply Kd.R_drewN | apply Kd.R_drew)); exact HO_7.out) hb); have n1_ := Aside0.mk (Kd.R_below (by (with_reducible repeat (first | apply Kd.R_alloc | apply Kd.R_drewN | apply Kd.R_drew)); exact HO_8.out) hb); have n2_ := Aside0.mk (kB (g := gb228) (o := .cells #[.int .i64 a0_0, .int .i64 a0_1, .slice A0_2 l0_2.length c0_2] 24 (0, 0)) (by (with_reducible repeat (first | refine kN ?_ _ | refine kD ?_ | refine kA ?_ _)); exact BK228.out) hb); have n3_ := Aside0.mk (bP (by repeat (first | (with_reducible first | exact HB.out | apply bA | apply bN | apply bD | refine bS ?_ GE228.out) | exact HB.out)) hb); clear HO_7; clear HO_8; clear BK228; clear HB; have HO_7 := n0_; have HO_8 := n1_; have BK228 := n2_; have HB := n3_; clear n0_ n1_ n2_ n3_; (try clear hb); (try clear hb2); (try clear hk); (try clear hi)))
    go_ret
    exact ⟨by first | rfl | (simp [eN, eS] <;> rfl) | (simp [*, eN, eS] <;> rfl), by repeat (first | (with_reducible first | exact HB.out | apply bA | apply bN | apply bD | refine bS ?_ GE228.out) | exact HB.out)⟩
def codewrightref07_Divides.f (a0_0 : Int) (a0_1 : Int) (l0_2 : List Int) (a1 : Int) : Option (Bool) := if a1 ≥ 1 then (if a1 ≤ a0_1 then (if a1 = 0 then (none) else (some ((Int.tmod a0_1 a1) == 0))) else (some false)) else (some false)
set_option maxHeartbeats 8000000 in
set_option maxRecDepth 100000 in
theorem codewrightref07_Divides.calls (a0_0 : Int) (a0_1 : Int) (A0_2 : Option Addr) (c0_2 : Nat) (l0_2 : List Int) (a1 : Int) (r : Bool) (w : World) (hr0_2 : Kd.C (Kd.int .i64) w A0_2 l0_2.length l0_2) (hc0_2 : l0_2.length ≤ c0_2) (h : codewrightref07_Divides.f a0_0 a0_1 l0_2 a1 = some r) :
  Calls Try.prog 21 #[.agg #[.int .i64 a0_0, .int .i64 a0_1, .slice A0_2 l0_2.length c0_2], .int .i64 a1] w fun e w' => e = .returned (.bool r) ∧ Below w.heap.size w w' := by
 have hu24 := Try.underlying24
 have HR0_2 := Aside0.mk hr0_2
 have HC0_2 := Aside0.mk hc0_2
 clear hr0_2 hc0_2
 have HB := Aside0.mk (Below.refl w.heap.size w)
 have H : (if a1 ≥ 1 then (if a1 ≤ a0_1 then (if a1 = 0 then (none) else (some ((Int.tmod a0_1 a1) == 0))) else (some false)) else (some false)) = some r := h
 clear h
 by_cases c3 : a1 ≥ 1
 ·rw [if_pos c3] at H
  have c3b0 : decide (1 ≤ a1) = true := decide_eq_true c3
  clear c3
  by_cases c4 : a1 ≤ a0_1
  ·rw [if_pos c4] at H
   have c4b0 : decide (a1 ≤ a0_1) = true := decide_eq_true c4
   clear c4
   by_cases c5 : a1 = 0
   ·rw [if_pos c5] at H
    exact absurd H (by simp)
   ·rw [if_neg c5] at H
    have c5b0 : (a1 == 0) = false := beq_eq_false_iff_ne.mpr c5
    have c5b1 : (a1 != 0) = true := bne_iff_ne.mpr c5
    obtain rfl := Option.some.inj H
    go_enter Try.func21, Try.ntmps21
    go_wp2_with (first | ((with_reducible refine gate_dst (N := 2) rfl ?_); refine box_event ?hg (N := 2) ?hd (cs := #[.int .i64 a0_0, .int .i64 a0_1, .slice A0_2 l0_2.length c0_2]) (t := 24) ?hr ?_; (case hd => rfl); (case hg => rfl); (case hr => first | (go_simp; done) | (go_simp; rfl)); intro gb241 hg w6 hbox hb; have n0_ := Aside0.mk (bP (by repeat (first | (with_reducible first | exact HB.out | apply bA | apply bN | apply bD) | exact HB.out)) hb); have n1_ := Aside0.mk (hbox); have n2_ := Aside0.mk ((by rw [hg]; exact (bZ (by repeat (first | (with_reducible first | exact HB.out | apply bA | apply bN | apply bD) | exact HB.out))) : w.heap.size ≤ gb241)); have n3_ := Aside0.mk ((by rw [hg]; exact (bZ (by repeat (first | (with_reducible first | exact HB.out | apply bA | apply bN | apply bD) | exact HB.out))) : w.heap.size ≤ gb241)); clear HB; have HB := n0_; have BK241 := n1_; have GW241 := n2_; have GE241 := n3_; clear n0_ n1_ n2_ n3_; clear hb hbox hg; have hcz7_0 : w6.cell? ⟨gb241, 0, none⟩ = some (.int .i64 a0_0) := (kC BK241.out 0).trans rfl; have hcz7_1 : w6.cell? ⟨gb241, 1, none⟩ = some (.int .i64 a0_1) := (kC BK241.out 1).trans rfl; have hcz7_2 : w6.cell? ⟨gb241, 2, none⟩ = some (.slice A0_2 l0_2.length c0_2) := (kC BK241.out 2).trans rfl; have hfz7_0 := kF BK241.out 0; have hfz7_1 := kF BK241.out 1; have hfz7_2 := kF BK241.out 2))
    go_ret
    exact ⟨by first | rfl | (simp [eN, eS] <;> rfl) | (simp [*, eN, eS] <;> rfl), by repeat (first | (with_reducible first | exact HB.out | apply bA | apply bN | apply bD | refine bS ?_ GE241.out) | exact HB.out)⟩
  ·rw [if_neg c4] at H
   have c4b0 : decide (a1 ≤ a0_1) = false := decide_eq_false c4
   clear c4
   obtain rfl := Option.some.inj H
   go_enter Try.func21, Try.ntmps21
   go_wp2_with (first | ((with_reducible refine gate_dst (N := 2) rfl ?_); refine box_event ?hg (N := 2) ?hd (cs := #[.int .i64 a0_0, .int .i64 a0_1, .slice A0_2 l0_2.length c0_2]) (t := 24) ?hr ?_; (case hd => rfl); (case hg => rfl); (case hr => first | (go_simp; done) | (go_simp; rfl)); intro gb241 hg w8 hbox hb; have n0_ := Aside0.mk (bP (by repeat (first | (with_reducible first | exact HB.out | apply bA | apply bN | apply bD) | exact HB.out)) hb); have n1_ := Aside0.mk (hbox); have n2_ := Aside0.mk ((by rw [hg]; exact (bZ (by repeat (first | (with_reducible first | exact HB.out | apply bA | apply bN | apply bD) | exact HB.out))) : w.heap.size ≤ gb241)); have n3_ := Aside0.mk ((by rw [hg]; exact (bZ (by repeat (first | (with_reducible first | exact HB.out | apply bA | apply bN | apply bD) | exact HB.out))) : w.heap.size ≤ gb241)); clear HB; have HB := n0_; have BK241 := n1_; have GW241 := n2_; have GE241 := n3_; clear n0_ n1_ n2_ n3_; clear hb hbox hg; have hcz9_0 : w8.cell? ⟨gb241, 0, none⟩ = some (.int .i64 a0_0) := (kC BK241.out 0).trans rfl; have hcz9_1 : w8.cell? ⟨gb241, 1, none⟩ = some (.int .i64 a0_1) := (kC BK241.out 1).trans rfl; have hcz9_2 : w8.cell? ⟨gb241, 2, none⟩ = some (.slice A0_2 l0_2.length c0_2) := (kC BK241.out 2).trans rfl; have hfz9_0 := kF BK241.out 0; have hfz9_1 := kF BK241.out 1; have hfz9_2 := kF BK241.out 2))
   go_ret
   exact ⟨by first | rfl | (simp [eN, eS] <;> rfl) | (simp [*, eN, eS] <;> rfl), by repeat (first | (with_reducible first | exact HB.out | apply bA | apply bN | apply bD | refine bS ?_ GE241.out) | exact HB.out)⟩
 ·rw [if_neg c3] at H
  have c3b0 : decide (1 ≤ a1) = false := decide_eq_false c3
  clear c3
  obtain rfl := Option.some.inj H
  go_enter Try.func21, Try.ntmps21
  go_wp2_with (first | ((with_reducible refine gate_dst (N := 2) rfl ?_); refine box_event ?hg (N := 2) ?hd (cs := #[.int .i64 a0_0, .int .i64 a0_1, .slice A0_2 l0_2.length c0_2]) (t := 24) ?hr ?_; (case hd => rfl); (case hg => rfl); (case hr => first | (go_simp; done) | (go_simp; rfl)); intro gb241 hg w10 hbox hb; have n0_ := Aside0.mk (bP (by repeat (first | (with_reducible first | exact HB.out | apply bA | apply bN | apply bD) | exact HB.out)) hb); have n1_ := Aside0.mk (hbox); have n2_ := Aside0.mk ((by rw [hg]; exact (bZ (by repeat (first | (with_reducible first | exact HB.out | apply bA | apply bN | apply bD) | exact HB.out))) : w.heap.size ≤ gb241)); have n3_ := Aside0.mk ((by rw [hg]; exact (bZ (by repeat (first | (with_reducible first | exact HB.out | apply bA | apply bN | apply bD) | exact HB.out))) : w.heap.size ≤ gb241)); clear HB; have HB := n0_; have BK241 := n1_; have GW241 := n2_; have GE241 := n3_; clear n0_ n1_ n2_ n3_; clear hb hbox hg))
  go_ret
  exact ⟨by first | rfl | (simp [eN, eS] <;> rfl) | (simp [*, eN, eS] <;> rfl), by repeat (first | (with_reducible first | exact HB.out | apply bA | apply bN | apply bD | refine bS ?_ GE241.out) | exact HB.out)⟩
def codewrightref07_In.f (k : Nat) (a0_0 : Int) (a0_1 : Int) (l0_2 : List Int) (a1 : Int) (a2 : Int) : Option (Bool) := (codewrightref07_Frobenius.f k a0_0 a0_1 l0_2 a1 a2).bind fun t243 => ((codewrightref04_In.f k a0_0 a0_1 l0_2 a1).bind fun t244 => (some (t243 == t244)))
def codewrightref07_Subfield.l0 : Nat → Int → List Int → Int → Int → Int → List Int → Option (List Int)
 | 0, _, _, _, _, _, _ => none
 | k + 1, x1, x5, x6, x246000, x246001, x246002 => (codewrightref04_Order.f k x246000 x246001 x246002).bind fun t246 => (if x6 < t246 then ((codewrightref07_In.f k x246000 x246001 x246002 x6 x1).bind fun t247 => (if t247 = true then (if x5.length < 17592186044416 then (codewrightref07_Subfield.l0 k x1 (x5 ++ [x6]) (wrap64 (x6 + 1)) x246000 x246001 x246002) else (none)) else (codewrightref07_Subfield.l0 k x1 x5 (wrap64 (x6 + 1)) x246000 x246001 x246002))) else (some x5))
def codewrightref07_Subfield.f (k : Nat) (a0_0 : Int) (a0_1 : Int) (l0_2 : List Int) (a1 : Int) : Option (List Int) := codewrightref07_Subfield.l0 k a1 ([] : List Int) 0 a0_0 a0_1 l0_2
end
end Go.Proofs.Ytoambdpchjeklaa.P
end
