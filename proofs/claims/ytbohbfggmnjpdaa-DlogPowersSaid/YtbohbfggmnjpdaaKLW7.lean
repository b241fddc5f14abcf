/- What dlogPowers_holds needs: texts Pa4, Pb2, GmOrder, Pb4, put together. -/
import Derived.Test.YtbohbfggmnjpdaaKLW6
set_option linter.unusedVariables false
set_option linter.unusedSimpArgs false
-- Pa4
section
namespace Go.Proofs.Ytbohbfggmnjpdaa.P
noncomputable section
open Go.RowKit Go.Proofs.Ytbohbfggmnjpdaa.Hand Go.Proofs.YtbohbfggmnjpdaaW.PrintWords Go.Proofs.YtbohbfggmnjpdaaW.PrintLast Go.Proofs.YtbohbfggmnjpdaaW.PrintMore
set_option linter.unusedVariables false
set_option linter.unusedSimpArgs false
mutual
def r4Check.j0 : Nat → Bool → Int → Int → List Int → Option (Int)
 | 0, _, _, _, _ => none
 | k + 1, x12, x171000, x171001, x171002 => if x12 = true then (some 1) else (if x171001 = 1 then (if (x171002.length : Int) = 0 then (some 0) else (some 1)) else (if (x171002.length : Int) = x171001 then (r4Check.l0 k 0 x171000 x171001 x171002) else (some 1)))
def r4Check.l0 : Nat → Int → Int → Int → List Int → Option (Int)
 | 0, _, _, _, _ => none
 | k + 1, x3, x171000, x171001, x171002 => if x3 < x171001 then (if 0 ≤ x3 then (if x3 < (x171002.length : Int) then (if (rd x171002 x3) < 0 then (some 1) else (if (rd x171002 x3) ≥ x171000 then (some 1) else (r4Check.l0 k (wrap64 (x3 + 1)) x171000 x171001 x171002))) else (none)) else (none)) else ((r4irreducible.f k x171002 x171000).bind fun t175 => (if t175 = true then (some 0) else (some 1)))
end
def r4Check.f (k : Nat) (a0_0 : Int) (a0_1 : Int) (l0_2 : List Int) : Option (Int) := (r4Order.f k a0_0 a0_1 l0_2).bind fun t171 => (if t171 = 0 then (r4Check.j0 k true a0_0 a0_1 l0_2) else ((r4prime.f k a0_0).bind fun t172 => (r4Check.j0 k (!t172) a0_0 a0_1 l0_2)))
set_option maxHeartbeats 8000000 in
set_option maxRecDepth 100000 in
theorem r4Check.calls (k : Nat) (a0_0 : Int) (a0_1 : Int) (A0_2 : Option Addr) (c0_2 : Nat) (l0_2 : List Int) (r : Int) (w : World) (hr0_2 : Kd.C (Kd.int .i64) w A0_2 l0_2.length l0_2) (hc0_2 : l0_2.length ≤ c0_2) (h : r4Check.f k a0_0 a0_1 l0_2 = some r) :
  Calls Try.prog 39 #[.agg #[.int .i64 a0_0, .int .i64 a0_1, .slice A0_2 l0_2.length c0_2]] w fun e w' => e = .returned (.int .i64 r) ∧ Below w.heap.size w w' := by
 have hu24 := Try.underlying24
 have HR0_2 := Q9a.mk hr0_2
 have HC0_2 := Q9a.mk hc0_2
 clear hr0_2 hc0_2
 have HB := Q9a.mk (Below.refl w.heap.size w)
 have H : ((r4Order.f k a0_0 a0_1 l0_2).bind fun t171 => (if t171 = 0 then (r4Check.j0 k true a0_0 a0_1 l0_2) else ((r4prime.f k a0_0).bind fun t172 => (r4Check.j0 k (!t172) a0_0 a0_1 l0_2)))) = some r := h
 clear h
 have HC2 := Q9a.mk H
 clear H
 go_enter Try.func39, Try.ntmps39
 go_upto_region 1 with (first | ((with_reducible refine gate_dst (N := 1) rfl ?_); refine box_event ?hg (N := 1) ?hd (cs := #[.int .i64 a0_0, .int .i64 a0_1, .slice A0_2 l0_2.length c0_2]) (t := 24) ?hr ?_; (case hd => rfl); (case hg => rfl); (case hr => first | (go_simp; done) | (go_simp; rfl)); intro gb170 hg w3 hbox hb; have n0_ := Q9a.mk (bP (by repeat (first | (with_reducible first | exact HB.out | apply bA | apply bN | apply bD) | exact HB.out)) hb); have n1_ := Q9a.mk (hbox); have n2_ := Q9a.mk ((by rw [hg]; exact (bZ (by repeat (first | (with_reducible first | exact HB.out | apply bA | apply bN | apply bD) | exact HB.out))) : w.heap.size ≤ gb170)); have n3_ := Q9a.mk ((by rw [hg]; exact (bZ (by repeat (first | (with_reducible first | exact HB.out | apply bA | apply bN | apply bD) | exact HB.out))) : w.heap.size ≤ gb170)); clear HB; have HB := n0_; have BK170 := n1_; have GW170 := n2_; have GE170 := n3_; clear n0_ n1_ n2_ n3_; clear hb hbox hg))
 repeat (go_quiet (first | ((with_reducible refine gate_dst (N := 1) rfl ?_); refine box_event ?hg (N := 1) ?hd (cs := #[.int .i64 a0_0, .int .i64 a0_1, .slice A0_2 l0_2.length c0_2]) (t := 24) ?hr ?_; (case hd => rfl); (case hg => rfl); (case hr => first | (go_simp; done) | (go_simp; rfl)); intro gb170 hg w3 hbox hb; have n0_ := Q9a.mk (bP (by repeat (first | (with_reducible first | exact HB.out | apply bA | apply bN | apply bD) | exact HB.out)) hb); have n1_ := Q9a.mk (hbox); have n2_ := Q9a.mk ((by rw [hg]; exact (bZ (by repeat (first | (with_reducible first | exact HB.out | apply bA | apply bN | apply bD) | exact HB.out))) : w.heap.size ≤ gb170)); have n3_ := Q9a.mk ((by rw [hg]; exact (bZ (by repeat (first | (with_reducible first | exact HB.out | apply bA | apply bN | apply bD) | exact HB.out))) : w.heap.size ≤ gb170)); clear HB; have HB := n0_; have BK170 := n1_; have GW170 := n2_; have GE170 := n3_; clear n0_ n1_ n2_ n3_; clear hb hbox hg)); go_upto_region 1 with (first | ((with_reducible refine gate_dst (N := 1) rfl ?_); refine box_event ?hg (N := 1) ?hd (cs := #[.int .i64 a0_0, .int .i64 a0_1, .slice A0_2 l0_2.length c0_2]) (t := 24) ?hr ?_; (case hd => rfl); (case hg => rfl); (case hr => first | (go_simp; done) | (go_simp; rfl)); intro gb170 hg w3 hbox hb; have n0_ := Q9a.mk (bP (by repeat (first | (with_reducible first | exact HB.out | apply bA | apply bN | apply bD) | exact HB.out)) hb); have n1_ := Q9a.mk (hbox); have n2_ := Q9a.mk ((by rw [hg]; exact (bZ (by repeat (first | (with_reducible first | exact HB.out | apply bA | apply bN | apply bD) | exact HB.out))) : w.heap.size ≤ gb170)); have n3_ := Q9a.mk ((by rw [hg]; exact (bZ (by repeat (first | (with_reducible first | exact HB.out | apply bA | apply bN | apply bD) | exact HB.out))) : w.heap.size ≤ gb170)); clear HB; have HB := n0_; have BK170 := n1_; have GW170 := n2_; have GE170 := n3_; clear n0_ n1_ n2_ n3_; clear hb hbox hg)))
 (try simp only [Act.put, sz1, sz2, sz3])
 go_cut [12] (fun v12 wc => ∃ (kq : Nat) (x12_1 : Bool), v12 = .bool x12_1 ∧ Q9a (r4Check.j0 kq x12_1 a0_0 a0_1 l0_2 = some r) ∧ Q9a (kq ≤ k) ∧ Q9a (wc.heap[gb170]? = some (.cells #[.int .i64 a0_0, .int .i64 a0_1, (.slice A0_2 l0_2.length c0_2)] 24 (0, 0))) ∧ Q9a (Below w.heap.size w wc))
 case first =>
  have H := HC2.out
  clear HC2
  replace H := Option.bind_eq_some_iff.mp H
  obtain ⟨t171, A40, H⟩ := H
  replace H : (if t171 = 0 then (r4Check.j0 k true a0_0 a0_1 l0_2) else ((r4prime.f k a0_0).bind fun t172 => (r4Check.j0 k (!t172) a0_0 a0_1 l0_2))) = some r := H
  have A4 := Q9a.mk A40
  clear A40
  by_cases c5 : t171 = 0
  ·rw [if_pos c5] at H
   have c5b0 : (t171 == 0) = true := beq_iff_eq.mpr c5
   have c5b1 : (t171 != 0) = false := bne_eq_false_iff_eq.mpr c5
   clear c5
   (first | rw [c5b0] | (simp only [i64_w, i32_w]; rw [c5b0]) | skip)
   have H' := Q9a.mk H
   clear H
   have hcz6_0 : w3.cell? ⟨gb170, 0, none⟩ = some (.int .i64 a0_0) := (kC BK170.out 0).trans rfl
   have hcz6_1 : w3.cell? ⟨gb170, 1, none⟩ = some (.int .i64 a0_1) := (kC BK170.out 1).trans rfl
   have hcz6_2 : w3.cell? ⟨gb170, 2, none⟩ = some (.slice A0_2 l0_2.length c0_2) := (kC BK170.out 2).trans rfl
   have hfz6_0 := kF BK170.out 0
   have hfz6_1 := kF BK170.out 1
   have hfz6_2 := kF BK170.out 2
   go_wp2_with (first | (go_at_call 33; (with_reducible refine (r4Order.calls k a0_0 a0_1 _ _ l0_2 t171 _ ?side1 ?side2 A4.out).mono ?_); (case side1 => repeat (first | exact (Kd.C_below HR0_2.out HB.out) | (with_reducible refine Kd.C_alloc ?_ _) | (with_reducible refine Kd.C_drewN ?_ _) | (with_reducible refine Kd.C_drew ?_))); (case side2 => exact HC0_2.out); rintro e w7 ⟨rfl, hb⟩; have n0_ := Q9a.mk (kB (g := gb170) (o := .cells #[.int .i64 a0_0, .int .i64 a0_1, .slice A0_2 l0_2.length c0_2] 24 (0, 0)) (by (with_reducible repeat (first | refine kN ?_ _ | refine kD ?_ | refine kA ?_ _)); exact BK170.out) hb); have n1_ := Q9a.mk (bP (by repeat (first | (with_reducible first | exact HB.out | apply bA | apply bN | apply bD | refine bS ?_ GE170.out) | exact HB.out)) hb); clear BK170; clear HB; have BK170 := n0_; have HB := n1_; clear n0_ n1_; (try clear hb); (try clear hb2); (try clear hk); (try clear hi)))
   repeat (go_quiet (first | (go_at_call 33; (with_reducible refine (r4Order.calls k a0_0 a0_1 _ _ l0_2 t171 _ ?side1 ?side2 A4.out).mono ?_); (case side1 => repeat (first | exact (Kd.C_below HR0_2.out HB.out) | (with_reducible refine Kd.C_alloc ?_ _) | (with_reducible refine Kd.C_drewN ?_ _) | (with_reducible refine Kd.C_drew ?_))); (case side2 => exact HC0_2.out); rintro e w7 ⟨rfl, hb⟩; have n0_ := Q9a.mk (kB (g := gb170) (o := .cells #[.int .i64 a0_0, .int .i64 a0_1, .slice A0_2 l0_2.length c0_2] 24 (0, 0)) (by (with_reducible repeat (first | refine kN ?_ _ | refine kD ?_ | refine kA ?_ _)); exact BK170.out) hb); have n1_ := Q9a.mk (bP (by repeat (first | (with_reducible first | exact HB.out | apply bA | apply bN | apply bD | refine bS ?_ GE170.out) | exact HB.out)) hb); clear BK170; clear HB; have BK170 := n0_; have HB := n1_; clear n0_ n1_; (try clear hb); (try clear hb2); (try clear hk); (try clear hi))); try go_wp2_with (first | (go_at_call 33; (with_reducible refine (r4Order.calls k a0_0 a0_1 _ _ l0_2 t171 _ ?side1 ?side2 A4.out).mono ?_); (case side1 => repeat (first | exact (Kd.C_below HR0_2.out HB.out) | (with_reducible refine Kd.C_alloc ?_ _) | (with_reducible refine Kd.C_drewN ?_ _) | (with_reducible refine Kd.C_drew ?_))); (case side2 => exact HC0_2.out); rintro e w7 ⟨rfl, hb⟩; have n0_ := Q9a.mk (kB (g := gb170) (o := .cells #[.int .i64 a0_0, .int .i64 a0_1, .slice A0_2 l0_2.length c0_2] 24 (0, 0)) (by (with_reducible repeat (first | refine kN ?_ _ | refine kD ?_ | refine kA ?_ _)); exact BK170.out) hb); have n1_ := Q9a.mk (bP (by repeat (first | (with_reducible first | exact HB.out | apply bA | apply bN | apply bD | refine bS ?_ GE170.out) | exact HB.out)) hb); clear BK170; clear HB; have BK170 := n0_; have HB := n1_; clear n0_ n1_; (try clear hb); (try clear hb2); (try clear hk); (try clear hi))))
   go_meet
   case rel => exact ⟨_, (true), (by first | rfl | (simp; done) | (simp [*]; done)), H', ⟨by first | omega | exact Nat.le_refl _⟩, ⟨by (with_reducible repeat (first | refine kN ?_ _ | refine kD ?_ | refine kA ?_ _)); exact BK170.out⟩, ⟨by repeat (first | (with_reducible first | exact HB.out | apply bA | apply bN | apply bD | refine bS ?_ GE170.out) | exact HB.out)⟩⟩
  ·rw [if_neg c5] at H
   have c5b0 : (t171 == 0) = false := beq_eq_false_iff_ne.mpr c5
   have c5b1 : (t171 != 0) = true := bne_iff_ne.mpr c5
   (first | rw [c5b0] | (simp only [i64_w, i32_w]; rw [c5b0]) | skip)
   replace H := Option.bind_eq_some_iff.mp H
   obtain ⟨t172, A80, H⟩ := H
   replace H : (r4Check.j0 k (!t172) a0_0 a0_1 l0_2) = some r := H
   have A8 := Q9a.mk A80
   clear A80
   have H' := Q9a.mk H
   clear H
   have hcz9_0 : w3.cell? ⟨gb170, 0, none⟩ = some (.int .i64 a0_0) := (kC BK170.out 0).trans rfl
   have hcz9_1 : w3.cell? ⟨gb170, 1, none⟩ = some (.int .i64 a0_1) := (kC BK170.out 1).trans rfl
   have hcz9_2 : w3.cell? ⟨gb170, 2, none⟩ = some (.slice A0_2 l0_2.length c0_2) := (kC BK170.out 2).trans rfl
   have hfz9_0 := kF BK170.out 0
   have hfz9_1 := kF BK170.out 1
   have hfz9_2 := kF BK170.out 2
   go_wp2_with (first | (go_at_call 33; (with_reducible refine (r4Order.calls k a0_0 a0_1 _ _ l0_2 t171 _ ?side1 ?side2 A4.out).mono ?_); (case side1 => repeat (first | exact (Kd.C_below HR0_2.out HB.out) | (with_reducible refine Kd.C_alloc ?_ _) | (with_reducible refine Kd.C_drewN ?_ _) | (with_reducible refine Kd.C_drew ?_))); (case side2 => exact HC0_2.out); rintro e w10 ⟨rfl, hb⟩; have n0_ := Q9a.mk (kB (g := gb170) (o := .cells #[.int .i64 a0_0, .int .i64 a0_1, .slice A0_2 l0_2.length c0_2] 24 (0, 0)) (by (with_reducible repeat (first | refine kN ?_ _ | refine kD ?_ | refine kA ?_ _)); exact BK170.out) hb); have n1_ := Q9a.mk (bP (by repeat (first | (with_reducible first | exact HB.out | apply bA | apply bN | apply bD | refine bS ?_ GE170.out) | exact HB.out)) hb); clear BK170; clear HB; have BK170 := n0_; have HB := n1_; clear n0_ n1_; (try clear hb); (try clear hb2); (try clear hk); (try clear hi); have hcz11_0 : w10.cell? ⟨gb170, 0, none⟩ = some (.int .i64 a0_0) := (kC BK170.out 0).trans rfl; have hcz11_1 : w10.cell? ⟨gb170, 1, none⟩ = some (.int .i64 a0_1) := (kC BK170.out 1).trans rfl; have hcz11_2 : w10.cell? ⟨gb170, 2, none⟩ = some (.slice A0_2 l0_2.length c0_2) := (kC BK170.out 2).trans rfl; have hfz11_0 := kF BK170.out 0; have hfz11_1 := kF BK170.out 1; have hfz11_2 := kF BK170.out 2) | (go_at_call 60; (with_reducible refine (r4prime.calls k a0_0 t172 _ A8.out).mono ?_); rintro e w' ⟨rfl, ⟨nd, rfl⟩⟩; (try first | exact ⟨rfl, _, World.drewN_drewN _ _ _⟩ | exact ⟨rfl, _, Eq.trans (World.drewN_drewN _ _ _) (congrArg (World.drewN _) (Nat.add_assoc _ _ _))⟩)))
   repeat (go_quiet (first | (go_at_call 33; (with_reducible refine (r4Order.calls k a0_0 a0_1 _ _ l0_2 t171 _ ?side1 ?side2 A4.out).mono ?_); (case side1 => repeat (first | exact (Kd.C_below HR0_2.out HB.out) | (with_reducible refine Kd.C_alloc ?_ _) | (with_reducible refine Kd.C_drewN ?_ _) | (with_reducible refine Kd.C_drew ?_))); (case side2 => exact HC0_2.out); rintro e w10 ⟨rfl, hb⟩; have n0_ := Q9a.mk (kB (g := gb170) (o := .cells #[.int .i64 a0_0, .int .i64 a0_1, .slice A0_2 l0_2.length c0_2] 24 (0, 0)) (by (with_reducible repeat (first | refine kN ?_ _ | refine kD ?_ | refine kA ?_ _)); exact BK170.out) hb); have n1_ := Q9a.mk (bP (by repeat (first | (with_reducible first | exact HB.out | apply bA | apply bN | apply bD | refine bS ?_ GE170.out) | exact HB.out)) hb); clear BK170; clear HB; have BK170 := n0_; have HB := n1_; clear n0_ n1_; (try clear hb); (try clear hb2); (try clear hk); (try clear hi); have hcz11_0 : w10.cell? ⟨gb170, 0, none⟩ = some (.int .i64 a0_0) := (kC BK170.out 0).trans rfl; have hcz11_1 : w10.cell? ⟨gb170, 1, none⟩ = some (.int .i64 a0_1) := (kC BK170.out 1).trans rfl; have hcz11_2 : w10.cell? ⟨gb170, 2, none⟩ = some (.slice A0_2 l0_2.length c0_2) := (kC BK170.out 2).trans rfl; have hfz11_0 := kF BK170.out 0; have hfz11_1 := kF BK170.out 1; have hfz11_2 := kF BK170.out 2) | (go_at_call 60; (with_reducible refine (r4prime.calls k a0_0 t172 _ A8.out).mono ?_); rintro e w' ⟨rfl, ⟨nd, rfl⟩⟩; (try first | exact ⟨rfl, _, World.drewN_drewN _ _ _⟩ | exact ⟨rfl, _, Eq.trans (World.drewN_drewN _ _ _) (congrArg (World.drewN _) (Nat.add_assoc _ _ _))⟩))); try go_wp2_with (first | (go_at_call 33; (with_reducible refine (r4Order.calls k a0_0 a0_1 _ _ l0_2 t171 _ ?side1 ?side2 A4.out).mono ?_); (case side1 => repeat (first | exact (Kd.C_below HR0_2.out HB.out) | (with_reducible refine Kd.C_alloc ?_ _) | (with_reducible refine Kd.C_drewN ?_ _) | (with_reducible refine Kd.C_drew ?_))); (case side2 => exact HC0_2.out); rintro e w10 ⟨rfl, hb⟩; have n0_ := Q9a.mk (kB (g := gb170) (o := .cells #[.int .i64 a0_0, .int .i64 a0_1, .slice A0_2 l0_2.length c0_2] 24 (0, 0)) (by (with_reducible repeat (first | refine kN ?_ _ | refine kD ?_ | refine kA ?_ _)); exact BK170.out) hb); have n1_ := Q9a.mk (bP (by repeat (first | (with_reducible first | exact HB.out | apply bA | apply bN | apply bD | refine bS ?_ GE170.out) | exact HB.out)) hb); clear BK170; clear HB; have BK170 := n0_; have HB := n1_; clear n0_ n1_; (try clear hb); (try clear hb2); (try clear hk); (try clear hi); have hcz11_0 : w10.cell? ⟨gb170, 0, none⟩ = some (.int .i64 a0_0) := (kC BK170.out 0).trans rfl; have hcz11_1 : w10.cell? ⟨gb170, 1, none⟩ = some (.int .i64 a0_1) := (kC BK170.out 1).trans rfl; have hcz11_2 : w10.cell? ⟨gb170, 2, none⟩ = some (.slice A0_2 l0_2.length c0_2) := (kC BK170.out 2).trans rfl; have hfz11_0 := kF BK170.out 0; have hfz11_1 := kF BK170.out 1; have hfz11_2 := kF BK170.out 2) | (go_at_call 60; (with_reducible refine (r4prime.calls k a0_0 t172 _ A8.out).mono ?_); rintro e w' ⟨rfl, ⟨nd, rfl⟩⟩; (try first | exact ⟨rfl, _, World.drewN_drewN _ _ _⟩ | exact ⟨rfl, _, Eq.trans (World.drewN_drewN _ _ _) (congrArg (World.drewN _) (Nat.add_assoc _ _ _))⟩))))
   go_meet
   case rel => exact ⟨_, (!t172), (by first | rfl | (simp; done) | (simp [*]; done)), H', ⟨by first | omega | exact Nat.le_refl _⟩, ⟨by (with_reducible repeat (first | refine kN ?_ _ | refine kD ?_ | refine kA ?_ _)); exact BK170.out⟩, ⟨by repeat (first | (with_reducible first | exact HB.out | apply bA | apply bN | apply bD | refine bS ?_ GE170.out) | exact HB.out)⟩⟩
 case rest =>
  clear HC2
  try clear p2
  try clear c3
  try clear c5
  try clear c5b0
  try clear c5b1
  try clear hcz11_0
  try clear hcz11_1
  try clear hcz11_2
  try clear hcz6_0
  try clear hcz6_1
  try clear hcz6_2
  try clear hcz9_0
  try clear hcz9_1
  try clear hcz9_2
  try clear hfz11_0
  try clear hfz11_1
  try clear hfz11_2
  try clear hfz6_0
  try clear hfz6_1
  try clear hfz6_2
  try clear hfz9_0
  try clear hfz9_1
  try clear hfz9_2
  obtain ⟨kq, x12_1, rfl, HA, HJ1, BK170, HB⟩ := hcut
  cases kq with
  | zero => exact absurd HA.out (by simp [r4Check.j0])
  | succ kj1 =>
   have H := HA.out
   clear HA
   simp only [r4Check.j0] at H
   by_cases c12 : x12_1 = true
   ·subst c12
    have H1 : (some 1) = some r := by rw [if_pos rfl] at H; exact H
    clear H
    have H := H1
    clear H1
    obtain rfl := Option.some.inj H
    go_wp2
    repeat (go_quiet (fail); try go_wp2)
    go_ret
    exact ⟨by first | rfl | (simp [eN, eS] <;> rfl) | (simp [*, eN, eS] <;> rfl), by repeat (first | (with_reducible first | exact HB.out | apply bA | apply bN | apply bD | refine bS ?_ GE170.out) | exact HB.out)⟩
   ·replace c12 := Bool.eq_false_iff.mpr c12
    subst c12
    have H1 : (if a0_1 = 1 then (if (l0_2.length : Int) = 0 then (some 0) else (some 1)) else (if (l0_2.length : Int) = a0_1 then (r4Check.l0 kj1 0 a0_0 a0_1 l0_2) else (some 1))) = some r := by rw [if_neg (show ¬ (false = true) by decide)] at H; exact H
    clear H
    have H := H1
    clear H1
    by_cases c13 : a0_1 = 1
    ·rw [if_pos c13] at H
     have c13b0 : (a0_1 == 1) = true := beq_iff_eq.mpr c13
     have c13b1 : (a0_1 != 1) = false := bne_eq_false_iff_eq.mpr c13
     clear c13
     by_cases c14 : (l0_2.length : Int) = 0
     ·rw [if_pos c14] at H
      have c14b0 : ((l0_2.length : Int) == 0) = true := beq_iff_eq.mpr c14
      have c14b1 : ((l0_2.length : Int) != 0) = false := bne_eq_false_iff_eq.mpr c14
      clear c14
      obtain rfl := Option.some.inj H
      have hcz15_0 : wc.cell? ⟨gb170, 0, none⟩ = some (.int .i64 a0_0) := (kC BK170.out 0).trans rfl
      have hcz15_1 : wc.cell? ⟨gb170, 1, none⟩ = some (.int .i64 a0_1) := (kC BK170.out 1).trans rfl
      have hcz15_2 : wc.cell? ⟨gb170, 2, none⟩ = some (.slice A0_2 l0_2.length c0_2) := (kC BK170.out 2).trans rfl
      have hfz15_0 := kF BK170.out 0
      have hfz15_1 := kF BK170.out 1
      have hfz15_2 := kF BK170.out 2
      go_wp2
      repeat (go_quiet (fail); try go_wp2)
      go_ret
      exact ⟨by first | rfl | (simp [eN, eS] <;> rfl) | (simp [*, eN, eS] <;> rfl), by repeat (first | (with_reducible first | exact HB.out | apply bA | apply bN | apply bD | refine bS ?_ GE170.out) | exact HB.out)⟩
     ·rw [if_neg c14] at H
      have c14b0 : ((l0_2.length : Int) == 0) = false := beq_eq_false_iff_ne.mpr c14
      have c14b1 : ((l0_2.length : Int) != 0) = true := bne_iff_ne.mpr c14
      have c14b2 : ¬ (l0_2 = []) := fun h_ => c14 (by rw [h_]; rfl)
      obtain rfl := Option.some.inj H
      have hcz16_0 : wc.cell? ⟨gb170, 0, none⟩ = some (.int .i64 a0_0) := (kC BK170.out 0).trans rfl
      have hcz16_1 : wc.cell? ⟨gb170, 1, none⟩ = some (.int .i64 a0_1) := (kC BK170.out 1).trans rfl
      have hcz16_2 : wc.cell? ⟨gb170, 2, none⟩ = some (.slice A0_2 l0_2.length c0_2) := (kC BK170.out 2).trans rfl
      have hfz16_0 := kF BK170.out 0
      have hfz16_1 := kF BK170.out 1
      have hfz16_2 := kF BK170.out 2
      go_wp2
      repeat (go_quiet (fail); try go_wp2)
      go_ret
      exact ⟨by first | rfl | (simp [eN, eS] <;> rfl) | (simp [*, eN, eS] <;> rfl), by repeat (first | (with_reducible first | exact HB.out | apply bA | apply bN | apply bD | refine bS ?_ GE170.out) | exact HB.out)⟩
    ·rw [if_neg c13] at H
     have c13b0 : (a0_1 == 1) = false := beq_eq_false_iff_ne.mpr c13
     have c13b1 : (a0_1 != 1) = true := bne_iff_ne.mpr c13
     by_cases c17 : (l0_2.length : Int) = a0_1
     ·rw [if_pos c17] at H
      have c17b0 : ((l0_2.length : Int) == a0_1) = true := beq_iff_eq.mpr c17
      have c17b1 : ((l0_2.length : Int) != a0_1) = false := bne_eq_false_iff_eq.mpr c17
      clear c17
      have H' := Q9a.mk H
      clear H
      have hcz18_0 : wc.cell? ⟨gb170, 0, none⟩ = some (.int .i64 a0_0) := (kC BK170.out 0).trans rfl
      have hcz18_1 : wc.cell? ⟨gb170, 1, none⟩ = some (.int .i64 a0_1) := (kC BK170.out 1).trans rfl
      have hcz18_2 : wc.cell? ⟨gb170, 2, none⟩ = some (.slice A0_2 l0_2.length c0_2) := (kC BK170.out 2).trans rfl
      have hfz18_0 := kF BK170.out 0
      have hfz18_1 := kF BK170.out 1
      have hfz18_2 := kF BK170.out 2
      go_wp2
      repeat (go_quiet (fail); try go_wp2)
      go_loopg [3] kj1 (fun kq v3 w' => ∃ (x3_2 : Int), v3 = .int .i64 x3_2 ∧ Q9a (r4Check.l0 kq x3_2 a0_0 a0_1 l0_2 = some r) ∧ Q9a (kq ≤ kj1) ∧ Q9a (w'.heap[gb170]? = some (.cells #[.int .i64 a0_0, .int .i64 a0_1, (.slice A0_2 l0_2.length c0_2)] 24 (0, 0))) ∧ Q9a (Below w.heap.size w w'))
      case atStart => exact ⟨(0), (by first | rfl | (simp; done) | (simp [*]; done)), H', ⟨Nat.le_refl _⟩, ⟨by (with_reducible repeat (first | refine kN ?_ _ | refine kD ?_ | refine kA ?_ _)); exact BK170.out⟩, ⟨by repeat (first | (with_reducible first | exact HB.out | apply bA | apply bN | apply bD | refine bS ?_ GE170.out) | exact HB.out)⟩⟩
      case round =>
       clear H'
       try clear c1
       try clear p2
       try clear c3
       try clear c5
       try clear c5b0
       try clear c5b1
       try clear c12
       try clear c13
       try clear c13b0
       try clear c13b1
       try clear c14
       try clear c14b0
       try clear c14b1
       try clear c14b2
       try clear c17
       try clear c17b0
       try clear c17b1
       try clear hcz11_0
       try clear hcz11_1
       try clear hcz11_2
       try clear hcz15_0
       try clear hcz15_1
       try clear hcz15_2
       try clear hcz16_0
       try clear hcz16_1
       try clear hcz16_2
       try clear hcz18_0
       try clear hcz18_1
       try clear hcz18_2
       try clear hcz6_0
       try clear hcz6_1
       try clear hcz6_2
       try clear hcz9_0
       try clear hcz9_1
       try clear hcz9_2
       try clear hfz11_0
       try clear hfz11_1
       try clear hfz11_2
       try clear hfz15_0
       try clear hfz15_1
       try clear hfz15_2
       try clear hfz16_0
       try clear hfz16_1
       try clear hfz16_2
       try clear hfz18_0
       try clear hfz18_1
       try clear hfz18_2
       try clear hfz6_0
       try clear hfz6_1
       try clear hfz6_2
       try clear hfz9_0
       try clear hfz9_1
       try clear hfz9_2
       try clear p2
       obtain ⟨x3_2, rfl, HA, HK2, BK170, HB⟩ := hrel
       cases gk with
       | zero => exact absurd HA.out (by simp [r4Check.l0])
       | succ k2 =>
        have H := HA.out
        clear HA
        simp only [r4Check.l0] at H
        by_cases c19 : x3_2 < a0_1
        ·rw [if_pos c19] at H
         have c19b0 : decide (x3_2 < a0_1) = true := decide_eq_true c19
         clear c19
         by_cases c20 : 0 ≤ x3_2
         ·rw [if_pos c20] at H
          have c20b0 : decide (0 ≤ x3_2) = true := decide_eq_true c20
          clear c20
          by_cases c21 : x3_2 < (l0_2.length : Int)
          ·rw [if_pos c21] at H
           have c21b0 : decide (x3_2 < (l0_2.length : Int)) = true := decide_eq_true c21
           clear c21
           by_cases c22 : (rd l0_2 x3_2) < 0
           ·rw [if_pos c22] at H
            have c22b0 : decide ((rd l0_2 x3_2) < 0) = true := decide_eq_true c22
            clear c22
            obtain rfl := Option.some.inj H
            have hcz23_0 : wr.cell? ⟨gb170, 0, none⟩ = some (.int .i64 a0_0) := (kC BK170.out 0).trans rfl
            have hcz23_1 : wr.cell? ⟨gb170, 1, none⟩ = some (.int .i64 a0_1) := (kC BK170.out 1).trans rfl
            have hcz23_2 : wr.cell? ⟨gb170, 2, none⟩ = some (.slice A0_2 l0_2.length c0_2) := (kC BK170.out 2).trans rfl
            have hfz23_0 := kF BK170.out 0
            have hfz23_1 := kF BK170.out 1
            have hfz23_2 := kF BK170.out 2
            have p173 : 0 ≤ (x3_2 : Int) := of_decide_eq_true (by first | (with_reducible assumption) | assumption)
            have q173 : x3_2 < (l0_2.length : Int) := of_decide_eq_true (by first | (with_reducible assumption) | assumption)
            obtain ⟨ad173, e173, hx173_0⟩ := Kd.at_int HR0_2.out x3_2 p173 q173
            cases e173
            replace hx173_0 := (HB.out.cell (World.block_lt_of_cell? w _ hx173_0)).trans hx173_0
            replace p173 := eq_true p173
            replace q173 := eq_true q173
            go_wp2
            repeat (go_quiet (fail); try go_wp2)
            go_ret
            exact ⟨by first | rfl | (simp [eN, eS] <;> rfl) | (simp [*, eN, eS] <;> rfl), by repeat (first | (with_reducible first | exact HB.out | apply bA | apply bN | apply bD | refine bS ?_ GE170.out) | exact HB.out)⟩
           ·rw [if_neg c22] at H
            have c22b0 : decide ((rd l0_2 x3_2) < 0) = false := decide_eq_false c22
            clear c22
            by_cases c24 : (rd l0_2 x3_2) ≥ a0_0
            ·rw [if_pos c24] at H
             have c24b0 : decide (a0_0 ≤ (rd l0_2 x3_2)) = true := decide_eq_true c24
             clear c24
             obtain rfl := Option.some.inj H
             have hcz25_0 : wr.cell? ⟨gb170, 0, none⟩ = some (.int .i64 a0_0) := (kC BK170.out 0).trans rfl
             have hcz25_1 : wr.cell? ⟨gb170, 1, none⟩ = some (.int .i64 a0_1) := (kC BK170.out 1).trans rfl
             have hcz25_2 : wr.cell? ⟨gb170, 2, none⟩ = some (.slice A0_2 l0_2.length c0_2) := (kC BK170.out 2).trans rfl
             have hfz25_0 := kF BK170.out 0
             have hfz25_1 := kF BK170.out 1
             have hfz25_2 := kF BK170.out 2
             have p173 : 0 ≤ (x3_2 : Int) := of_decide_eq_true (by first | (with_reducible assumption) | assumption)
             have q173 : x3_2 < (l0_2.length : Int) := of_decide_eq_true (by first | (with_reducible assumption) | assumption)
             obtain ⟨ad173, e173, hx173_0⟩ := Kd.at_int HR0_2.out x3_2 p173 q173
             cases e173
             replace hx173_0 := (HB.out.cell (World.block_lt_of_cell? w _ hx173_0)).trans hx173_0
             replace p173 := eq_true p173
             replace q173 := eq_true q173
             have p174 : 0 ≤ (x3_2 : Int) := of_decide_eq_true (by first | (with_reducible assumption) | assumption)
             have q174 : x3_2 < (l0_2.length : Int) := of_decide_eq_true (by first | (with_reducible assumption) | assumption)
             obtain ⟨ad174, e174, hx174_0⟩ := Kd.at_int HR0_2.out x3_2 p174 q174
             obtain rfl : ad173 = ad174 := (by injection e174)
             replace hx174_0 := (HB.out.cell (World.block_lt_of_cell? w _ hx174_0)).trans hx174_0
             replace p174 := eq_true p174
             replace q174 := eq_true q174
             go_wp2
             repeat (go_quiet (fail); try go_wp2)
             go_ret
             exact ⟨by first | rfl | (simp [eN, eS] <;> rfl) | (simp [*, eN, eS] <;> rfl), by repeat (first | (with_reducible first | exact HB.out | apply bA | apply bN | apply bD | refine bS ?_ GE170.out) | exact HB.out)⟩
            ·rw [if_neg c24] at H
             have c24b0 : decide (a0_0 ≤ (rd l0_2 x3_2)) = false := decide_eq_false c24
             clear c24
             have H' := Q9a.mk H
             clear H
             have hcz26_0 : wr.cell? ⟨gb170, 0, none⟩ = some (.int .i64 a0_0) := (kC BK170.out 0).trans rfl
             have hcz26_1 : wr.cell? ⟨gb170, 1, none⟩ = some (.int .i64 a0_1) := (kC BK170.out 1).trans rfl
             have hcz26_2 : wr.cell? ⟨gb170, 2, none⟩ = some (.slice A0_2 l0_2.length c0_2) := (kC BK170.out 2).trans rfl
             have hfz26_0 := kF BK170.out 0
             have hfz26_1 := kF BK170.out 1
             have hfz26_2 := kF BK170.out 2
             have p173 : 0 ≤ (x3_2 : Int) := of_decide_eq_true (by first | (with_reducible assumption) | assumption)
             have q173 : x3_2 < (l0_2.length : Int) := of_decide_eq_true (by first | (with_reducible assumption) | assumption)
             obtain ⟨ad173, e173, hx173_0⟩ := Kd.at_int HR0_2.out x3_2 p173 q173
             cases e173
             replace hx173_0 := (HB.out.cell (World.block_lt_of_cell? w _ hx173_0)).trans hx173_0
             replace p173 := eq_true p173
             replace q173 := eq_true q173
             have p174 : 0 ≤ (x3_2 : Int) := of_decide_eq_true (by first | (with_reducible assumption) | assumption)
             have q174 : x3_2 < (l0_2.length : Int) := of_decide_eq_true (by first | (with_reducible assumption) | assumption)
             obtain ⟨ad174, e174, hx174_0⟩ := Kd.at_int HR0_2.out x3_2 p174 q174
             obtain rfl : ad173 = ad174 := (by injection e174)
             replace hx174_0 := (HB.out.cell (World.block_lt_of_cell? w _ hx174_0)).trans hx174_0
             replace p174 := eq_true p174
             replace q174 := eq_true q174
             go_wp2
             repeat (go_quiet (fail); try go_wp2)
             go_roundg k2
             case measure => have := HJ1.out; have := HK2.out; omega
             case rel => exact ⟨(wrap64 (x3_2 + 1)), (by first | rfl | (simp; done) | (simp [*]; done)), H', ⟨by have := HJ1.out; have := HK2.out; omega⟩, ⟨by (with_reducible repeat (first | refine kN ?_ _ | refine kD ?_ | refine kA ?_ _)); exact BK170.out⟩, ⟨by repeat (first | (with_reducible first | exact HB.out | apply bA | apply bN | apply bD | refine bS ?_ GE170.out) | exact HB.out)⟩⟩
          ·rw [if_neg c21] at H
           exact absurd H (by simp)
         ·rw [if_neg c20] at H
          exact absurd H (by simp)
        ·rw [if_neg c19] at H
         have c19b0 : decide (x3_2 < a0_1) = false := decide_eq_false c19
         clear c19
         replace H := Option.bind_eq_some_iff.mp H
         obtain ⟨t175, A270, H⟩ := H
         replace H : (if t175 = true then (some 0) else (some 1)) = some r := H
         have A27 := Q9a.mk A270
         clear A270
         by_cases c28 : t175 = true
         ·subst c28
          have H1 : (some 0) = some r := by rw [if_pos rfl] at H; exact H
          clear H
          have H := H1
          clear H1
          obtain rfl := Option.some.inj H
          have hcz29_0 : wr.cell? ⟨gb170, 0, none⟩ = some (.int .i64 a0_0) := (kC BK170.out 0).trans rfl
          have hcz29_1 : wr.cell? ⟨gb170, 1, none⟩ = some (.int .i64 a0_1) := (kC BK170.out 1).trans rfl
          have hcz29_2 : wr.cell? ⟨gb170, 2, none⟩ = some (.slice A0_2 l0_2.length c0_2) := (kC BK170.out 2).trans rfl
          have hfz29_0 := kF BK170.out 0
          have hfz29_1 := kF BK170.out 1
          have hfz29_2 := kF BK170.out 2
          go_wp2_with (first | (go_at_call 61; (with_reducible refine (r4irreducible.calls k2 _ _ l0_2 a0_0 true _ ?side1 ?side2 A27.out).mono ?_); (case side1 => repeat (first | exact (Kd.C_below HR0_2.out HB.out) | (with_reducible refine Kd.C_alloc ?_ _) | (with_reducible refine Kd.C_drewN ?_ _) | (with_reducible refine Kd.C_drew ?_))); (case side2 => exact HC0_2.out); rintro e w30 ⟨rfl, hb⟩; have n0_ := Q9a.mk (kB (g := gb170) (o := .cells #[.int .i64 a0_0, .int .i64 a0_1, .slice A0_2 l0_2.length c0_2] 24 (0, 0)) (by (with_reducible repeat (first | refine kN ?_ _ | refine kD ?_ | refine kA ?_ _)); exact BK170.out) hb); have n1_ := Q9a.mk (bP (by repeat (first | (with_reducible first | exact HB.out | apply bA | apply bN | apply bD | refine bS ?_ GE170.out) | exact HB.out)) hb); clear BK170; clear HB; have BK170 := n0_; have HB := n1_; clear n0_ n1_; (try clear hb); (try clear hb2); (try clear hk); (try clear hi)))
          repeat (go_quiet (first | (go_at_call 61; (with_reducible refine (r4irreducible.calls k2 _ _ l0_2 a0_0 true _ ?side1 ?side2 A27.out).mono ?_); (case side1 => repeat (first | exact (Kd.C_below HR0_2.out HB.out) | (with_reducible refine Kd.C_alloc ?_ _) | (with_reducible refine Kd.C_drewN ?_ _) | (with_reducible refine Kd.C_drew ?_))); (case side2 => exact HC0_2.out); rintro e w30 ⟨rfl, hb⟩; have n0_ := Q9a.mk (kB (g := gb170) (o := .cells #[.int .i64 a0_0, .int .i64 a0_1, .slice A0_2 l0_2.length c0_2] 24 (0, 0)) (by (with_reducible repeat (first | refine kN ?_ _ | refine kD ?_ | refine kA ?_ _)); exact BK170.out) hb); have n1_ := Q9a.mk (bP (by repeat (first | (with_reducible first | exact HB.out | apply bA | apply bN | apply bD | refine bS ?_ GE170.out) | exact HB.out)) hb); clear BK170; clear HB; have BK170 := n0_; have HB := n1_; clear n0_ n1_; (try clear hb); (try clear hb2); (try clear hk); (try clear hi))); try go_wp2_with (first | (go_at_call 61; (with_reducible refine (r4irreducible.calls k2 _ _ l0_2 a0_0 true _ ?side1 ?side2 A27.out).mono ?_); (case side1 => repeat (first | exact (Kd.C_below HR0_2.out HB.out) | (with_reducible refine Kd.C_alloc ?_ _) | (with_reducible refine Kd.C_drewN ?_ _) | (with_reducible refine Kd.C_drew ?_))); (case side2 => exact HC0_2.out); rintro e w30 ⟨rfl, hb⟩; have n0_ := Q9a.mk (kB (g := gb170) (o := .cells #[.int .i64 a0_0, .int .i64 a0_1, .slice A0_2 l0_2.length c0_2] 24 (0, 0)) (by (with_reducible repeat (first | refine kN ?_ _ | refine kD ?_ | refine kA ?_ _)); exact BK170.out) hb); have n1_ := Q9a.mk (bP (by repeat (first | (with_reducible first | exact HB.out | apply bA | apply bN | apply bD | refine bS ?_ GE170.out) | exact HB.out)) hb); clear BK170; clear HB; have BK170 := n0_; have HB := n1_; clear n0_ n1_; (try clear hb); (try clear hb2); (try clear hk); (try clear hi))))
          go_ret
          exact ⟨by first | rfl | (simp [eN, eS] <;> rfl) | (simp [*, eN, eS] <;> rfl), by repeat (first | (with_reducible first | exact HB.out | apply bA | apply bN | apply bD | refine bS ?_ GE170.out) | exact HB.out)⟩
         ·replace c28 := Bool.eq_false_iff.mpr c28
          subst c28
          have H1 : (some 1) = some r := by rw [if_neg (show ¬ (false = true) by decide)] at H; exact H
          clear H
          have H := H1
          clear H1
          obtain rfl := Option.some.inj H
          have hcz31_0 : wr.cell? ⟨gb170, 0, none⟩ = some (.int .i64 a0_0) := (kC BK170.out 0).trans rfl
          have hcz31_1 : wr.cell? ⟨gb170, 1, none⟩ = some (.int .i64 a0_1) := (kC BK170.out 1).trans rfl
          have hcz31_2 : wr.cell? ⟨gb170, 2, none⟩ = some (.slice A0_2 l0_2.length c0_2) := (kC BK170.out 2).trans rfl
          have hfz31_0 := kF BK170.out 0
          have hfz31_1 := kF BK170.out 1
          have hfz31_2 := kF BK170.out 2
          go_wp2_with (first | (go_at_call 61; (with_reducible refine (r4irreducible.calls k2 _ _ l0_2 a0_0 false _ ?side1 ?side2 A27.out).mono ?_); (case side1 => repeat (first | exact (Kd.C_below HR0_2.out HB.out) | (with_reducible refine Kd.C_alloc ?_ _) | (with_reducible refine Kd.C_drewN ?_ _) | (with_reducible refine Kd.C_drew ?_))); (case side2 => exact HC0_2.out); rintro e w32 ⟨rfl, hb⟩; have n0_ := Q9a.mk (kB (g := gb170) (o := .cells #[.int .i64 a0_0, .int .i64 a0_1, .slice A0_2 l0_2.length c0_2] 24 (0, 0)) (by (with_reducible repeat (first | refine kN ?_ _ | refine kD ?_ | refine kA ?_ _)); exact BK170.out) hb); have n1_ := Q9a.mk (bP (by repeat (first | (with_reducible first | exact HB.out | apply bA | apply bN | apply bD | refine bS ?_ GE170.out) | exact HB.out)) hb); clear BK170; clear HB; have BK170 := n0_; have HB := n1_; clear n0_ n1_; (try clear hb); (try clear hb2); (try clear hk); (try clear hi)))
          repeat (go_quiet (first | (go_at_call 61; (with_reducible refine (r4irreducible.calls k2 _ _ l0_2 a0_0 false _ ?side1 ?side2 A27.out).mono ?_); (case side1 => repeat (first | exact (Kd.C_below HR0_2.out HB.out) | (with_reducible refine Kd.C_alloc ?_ _) | (with_reducible refine Kd.C_drewN ?_ _) | (with_reducible refine Kd.C_drew ?_))); (case side2 => exact HC0_2.out); rintro e w32 ⟨rfl, hb⟩; have n0_ := Q9a.mk (kB (g := gb170) (o := .cells #[.int .i64 a0_0, .int .i64 a0_1, .slice A0_2 l0_2.length c0_2] 24 (0, 0)) (by (with_reducible repeat (first | refine kN ?_ _ | refine kD ?_ | refine kA ?_ _)); exact BK170.out) hb); have n1_ := Q9a.mk (bP (by repeat (first | (with_reducible first | exact HB.out | apply bA | apply bN | apply bD | refine bS ?_ GE170.out) | exact HB.out)) hb); clear BK170; clear HB; have BK170 := n0_; have HB := n1_; clear n0_ n1_; (try clear hb); (try clear hb2); (try clear hk); (try clear hi))); try go_wp2_with (first | (go_at_call 61; (with_reducible refine (r4irreducible.calls k2 _ _ l0_2 a0_0 false _ ?side1 ?side2 A27.out).mono ?_); (case side1 => repeat (first | exact (Kd.C_below HR0_2.out HB.out) | (with_reducible refine Kd.C_alloc ?_ _) | (with_reducible refine Kd.C_drewN ?_ _) | (with_reducible refine Kd.C_drew ?_))); (case side2 => exact HC0_2.out); rintro e w32 ⟨rfl, hb⟩; have n0_ := Q9a.mk (kB (g := gb170) (o := .cells #[.int .i64 a0_0, .int .i64 a0_1, .slice A0_2 l0_2.length c0_2] 24 (0, 0)) (by (with_reducible repeat (first | refine kN ?_ _ | refine kD ?_ | refine kA ?_ _)); exact BK170.out) hb); have n1_ := Q9a.mk (bP (by repeat (first | (with_reducible first | exact HB.out | apply bA | apply bN | apply bD | refine bS ?_ GE170.out) | exact HB.out)) hb); clear BK170; clear HB; have BK170 := n0_; have HB := n1_; clear n0_ n1_; (try clear hb); (try clear hb2); (try clear hk); (try clear hi))))
          go_ret
          exact ⟨by first | rfl | (simp [eN, eS] <;> rfl) | (simp [*, eN, eS] <;> rfl), by repeat (first | (with_reducible first | exact HB.out | apply bA | apply bN | apply bD | refine bS ?_ GE170.out) | exact HB.out)⟩
     ·rw [if_neg c17] at H
      have c17b0 : ((l0_2.length : Int) == a0_1) = false := beq_eq_false_iff_ne.mpr c17
      have c17b1 : ((l0_2.length : Int) != a0_1) = true := bne_iff_ne.mpr c17
      obtain rfl := Option.some.inj H
      have hcz33_0 : wc.cell? ⟨gb170, 0, none⟩ = some (.int .i64 a0_0) := (kC BK170.out 0).trans rfl
      have hcz33_1 : wc.cell? ⟨gb170, 1, none⟩ = some (.int .i64 a0_1) := (kC BK170.out 1).trans rfl
      have hcz33_2 : wc.cell? ⟨gb170, 2, none⟩ = some (.slice A0_2 l0_2.length c0_2) := (kC BK170.out 2).trans rfl
      have hfz33_0 := kF BK170.out 0
      have hfz33_1 := kF BK170.out 1
      have hfz33_2 := kF BK170.out 2
      go_wp2
      repeat (go_quiet (fail); try go_wp2)
      go_ret
      exact ⟨by first | rfl | (simp [eN, eS] <;> rfl) | (simp [*, eN, eS] <;> rfl), by repeat (first | (with_reducible first | exact HB.out | apply bA | apply bN | apply bD | refine bS ?_ GE170.out) | exact HB.out)⟩
def slices_Equal_int_int.l0 : Nat → List Int → List Int → Int → Int → Option (Bool)
 | 0, _, _, _, _ => none
 | k + 1, x0, x1, x12, x13 => if x13 < x12 then (if 0 ≤ x13 then (if x13 < (x0.length : Int) then (if x13 < (x1.length : Int) then (if (rd x0 x13) = (rd x1 x13) then (slices_Equal_int_int.l0 k x0 x1 x12 (wrap64 (x13 + 1))) else (some false)) else (none)) else (none)) else (none)) else (some true)
def slices_Equal_int_int.f (k : Nat) (l0 : List Int) (l1 : List Int) : Option (Bool) := if (l0.length : Int) = (l1.length : Int) then (slices_Equal_int_int.l0 k l0 l1 (l0.length : Int) 0) else (some false)
def number_in.f (a0 : Int) (a1 : Int) : Option (Bool) := if a0 ≥ a1 then (some (decide (a0 ≤ 2147483647))) else (some false)
set_option maxHeartbeats 8000000 in
set_option maxRecDepth 100000 in
theorem number_in.calls (a0 : Int) (a1 : Int) (r : Bool) (w : World) (h : number_in.f a0 a1 = some r) :
  Calls Try.prog 69 #[.int .i64 a0, .int .i64 a1] w fun e w' => e = .returned (.bool r) ∧ Drawn0 w w' := by
 have H : (if a0 ≥ a1 then (some (decide (a0 ≤ 2147483647))) else (some false)) = some r := h
 clear h
 by_cases c3 : a0 ≥ a1
 ·rw [if_pos c3] at H
  have c3b0 : decide (a1 ≤ a0) = true := decide_eq_true c3
  clear c3
  obtain rfl := Option.some.inj H
  go_enter Try.func69, Try.ntmps69
  go_wp2
  go_ret
  exact ⟨by first | rfl | (simp; done) | (simp [*]; done), by repeat (first | exact Drawn0.refl _ | apply Drawn0.step)⟩
 ·rw [if_neg c3] at H
  have c3b0 : decide (a1 ≤ a0) = false := decide_eq_false c3
  clear c3
  obtain rfl := Option.some.inj H
  go_enter Try.func69, Try.ntmps69
  go_wp2
  go_ret
  exact ⟨by first | rfl | (simp; done) | (simp [*]; done), by repeat (first | exact Drawn0.refl _ | apply Drawn0.step)⟩
def r4Is.f (k : Nat) (a0_0 : Int) (a0_1 : Int) (l0_2 : List Int) (a1 : Int) : Option (Bool) := if a1 ≥ 0 then ((r4Order.f k a0_0 a0_1 l0_2).bind fun t186 => (some (decide (a1 < t186)))) else (some false)
set_option maxHeartbeats 8000000 in
set_option maxRecDepth 100000 in
theorem r4Is.calls (k : Nat) (a0_0 : Int) (a0_1 : Int) (A0_2 : Option Addr) (c0_2 : Nat) (l0_2 : List Int) (a1 : Int) (r : Bool) (w : World) (hr0_2 : Kd.C (Kd.int .i64) w A0_2 l0_2.length l0_2) (hc0_2 : l0_2.length ≤ c0_2) (h : r4Is.f k a0_0 a0_1 l0_2 a1 = some r) :
  Calls Try.prog 50 #[.agg #[.int .i64 a0_0, .int .i64 a0_1, .slice A0_2 l0_2.length c0_2], .int .i64 a1] w fun e w' => e = .returned (.bool r) ∧ Below w.heap.size w w' := by
 have hu24 := Try.underlying24
 have HR0_2 := Q9a.mk hr0_2
 have HC0_2 := Q9a.mk hc0_2
 clear hr0_2 hc0_2
 have HB := Q9a.mk (Below.refl w.heap.size w)
 have H : (if a1 ≥ 0 then ((r4Order.f k a0_0 a0_1 l0_2).bind fun t186 => (some (decide (a1 < t186)))) else (some false)) = some r := h
 clear h
 by_cases c3 : a1 ≥ 0
 ·rw [if_pos c3] at H
  have c3b0 : decide (0 ≤ a1) = true := decide_eq_true c3
  clear c3
  replace H := Option.bind_eq_some_iff.mp H
  obtain ⟨t186, A40, H⟩ := H
  replace H : (some (decide (a1 < t186))) = some r := H
  have A4 := Q9a.mk A40
  clear A40
  obtain rfl := Option.some.inj H
  go_enter Try.func50, Try.ntmps50
  go_wp2_with (first | ((with_reducible refine gate_dst (N := 2) rfl ?_); refine box_event ?hg (N := 2) ?hd (cs := #[.int .i64 a0_0, .int .i64 a0_1, .slice A0_2 l0_2.length c0_2]) (t := 24) ?hr ?_; (case hd => rfl); (case hg => rfl); (case hr => first | (go_simp; done) | (go_simp; rfl)); intro gb185 hg w5 hbox hb; have n0_ := Q9a.mk (bP (by repeat (first | (with_reducible first | exact HB.out | apply bA | apply bN | apply bD) | exact HB.out)) hb); have n1_ := Q9a.mk (hbox); have n2_ := Q9a.mk ((by rw [hg]; exact (bZ (by repeat (first | (with_reducible first | exact HB.out | apply bA | apply bN | apply bD) | exact HB.out))) : w.heap.size ≤ gb185)); have n3_ := Q9a.mk ((by rw [hg]; exact (bZ (by repeat (first | (with_reducible first | exact HB.out | apply bA | apply bN | apply bD) | exact HB.out))) : w.heap.size ≤ gb185)); clear HB; have HB := n0_; have BK185 := n1_; have GW185 := n2_; have GE185 := n3_; clear n0_ n1_ n2_ n3_; clear hb hbox hg; have hcz6_0 : w5.cell? ⟨gb185, 0, none⟩ = some (.int .i64 a0_0) := (kC BK185.out 0).trans rfl; have hcz6_1 : w5.cell? ⟨gb185, 1, none⟩ = some (.int .i64 a0_1) := (kC BK185.out 1).trans rfl; have hcz6_2 : w5.cell? ⟨gb185, 2, none⟩ = some (.slice A0_2 l0_2.length c0_2) := (kC BK185.out 2).trans rfl; have hfz6_0 := kF BK185.out 0; have hfz6_1 := kF BK185.out 1; have hfz6_2 := kF BK185.out 2) | (go_at_call 33; (with_reducible refine (r4Order.calls k a0_0 a0_1 _ _ l0_2 t186 _ ?side1 ?side2 A4.out).mono ?_); (case side1 => repeat (first | exact (Kd.C_below HR0_2.out HB.out) | (with_reducible refine Kd.C_alloc ?_ _) | (with_reducible refine Kd.C_drewN ?_ _) | (with_reducible refine Kd.C_drew ?_))); (case side2 => exact HC0_2.out); rintro e w7 ⟨rfl, hb⟩; have n0_ := Q9a.mk (kB (g := gb185) (o := .cells #[.int .i64 a0_0, .int .i64 a0_1, .slice A0_2 l0_2.length c0_2] 24 (0, 0)) (by (with_reducible repeat (first | refine kN ?_ _ | refine kD ?_ | refine kA ?_ _)); exact BK185.out) hb); have n1_ := Q9a.mk (bP (by repeat (first | (with_reducible first | exact HB.out | apply bA | apply bN | apply bD | refine bS ?_ GE185.out) | exact HB.out)) hb); clear BK185; clear HB; have BK185 := n0_; have HB := n1_; clear n0_ n1_; (try clear hb); (try clear hb2); (try clear hk); (try clear hi)))
  go_ret
  exact ⟨by first | rfl | (simp [eN, eS] <;> rfl) | (simp [*, eN, eS] <;> rfl), by repeat (first | (with_reducible first | exact HB.out | apply bA | apply bN | apply bD | refine bS ?_ GE185.out) | exact HB.out)⟩
 ·rw [if_neg c3] at H
  have c3b0 : decide (0 ≤ a1) = false := decide_eq_false c3
  clear c3
  obtain rfl := Option.some.inj H
  go_enter Try.func50, Try.ntmps50
  go_wp2_with (first | ((with_reducible refine gate_dst (N := 2) rfl ?_); refine box_event ?hg (N := 2) ?hd (cs := #[.int .i64 a0_0, .int .i64 a0_1, .slice A0_2 l0_2.length c0_2]) (t := 24) ?hr ?_; (case hd => rfl); (case hg => rfl); (case hr => first | (go_simp; done) | (go_simp; rfl)); intro gb185 hg w8 hbox hb; have n0_ := Q9a.mk (bP (by repeat (first | (with_reducible first | exact HB.out | apply bA | apply bN | apply bD) | exact HB.out)) hb); have n1_ := Q9a.mk (hbox); have n2_ := Q9a.mk ((by rw [hg]; exact (bZ (by repeat (first | (with_reducible first | exact HB.out | apply bA | apply bN | apply bD) | exact HB.out))) : w.heap.size ≤ gb185)); have n3_ := Q9a.mk ((by rw [hg]; exact (bZ (by repeat (first | (with_reducible first | exact HB.out | apply bA | apply bN | apply bD) | exact HB.out))) : w.heap.size ≤ gb185)); clear HB; have HB := n0_; have BK185 := n1_; have GW185 := n2_; have GE185 := n3_; clear n0_ n1_ n2_ n3_; clear hb hbox hg))
  go_ret
  exact ⟨by first | rfl | (simp [eN, eS] <;> rfl) | (simp [*, eN, eS] <;> rfl), by repeat (first | (with_reducible first | exact HB.out | apply bA | apply bN | apply bD | refine bS ?_ GE185.out) | exact HB.out)⟩
def r4In.f (k : Nat) (a0_0 : Int) (a0_1 : Int) (l0_2 : List Int) (a1 : Int) : Option (Int) := (r4Is.f k a0_0 a0_1 l0_2 a1).bind fun t188 => (if t188 = true then (some a1) else (some 0))
set_option maxHeartbeats 8000000 in
set_option maxRecDepth 100000 in
theorem r4In.calls (k : Nat) (a0_0 : Int) (a0_1 : Int) (A0_2 : Option Addr) (c0_2 : Nat) (l0_2 : List Int) (a1 : Int) (r : Int) (w : World) (hr0_2 : Kd.C (Kd.int .i64) w A0_2 l0_2.length l0_2) (hc0_2 : l0_2.length ≤ c0_2) (h : r4In.f k a0_0 a0_1 l0_2 a1 = some r) :
  Calls Try.prog 26 #[.agg #[.int .i64 a0_0, .int .i64 a0_1, .slice A0_2 l0_2.length c0_2], .int .i64 a1] w fun e w' => e = .returned (.int .i64 r) ∧ Below w.heap.size w w' := by
 have hu24 := Try.underlying24
 have HR0_2 := Q9a.mk hr0_2
 have HC0_2 := Q9a.mk hc0_2
 clear hr0_2 hc0_2
 have HB := Q9a.mk (Below.refl w.heap.size w)
 have H : ((r4Is.f k a0_0 a0_1 l0_2 a1).bind fun t188 => (if t188 = true then (some a1) else (some 0))) = some r := h
 clear h
 replace H := Option.bind_eq_some_iff.mp H
 obtain ⟨t188, A30, H⟩ := H
 replace H : (if t188 = true then (some a1) else (some 0)) = some r := H
 have A3 := Q9a.mk A30
 clear A30
 by_cases c4 : t188 = true
 ·subst c4
  have H1 : (some a1) = some r := by rw [if_pos rfl] at H; exact H
  clear H
  have H := H1
  clear H1
  obtain rfl := Option.some.inj H
  go_enter Try.func26, Try.ntmps26
  go_wp2_with (first | ((with_reducible refine gate_dst (N := 2) rfl ?_); refine box_event ?hg (N := 2) ?hd (cs := #[.int .i64 a0_0, .int .i64 a0_1, .slice A0_2 l0_2.length c0_2]) (t := 24) ?hr ?_; (case hd => rfl); (case hg => rfl); (case hr => first | (go_simp; done) | (go_simp; rfl)); intro gb187 hg w5 hbox hb; have n0_ := Q9a.mk (bP (by repeat (first | (with_reducible first | exact HB.out | apply bA | apply bN | apply bD) | exact HB.out)) hb); have n1_ := Q9a.mk (hbox); have n2_ := Q9a.mk ((by rw [hg]; exact (bZ (by repeat (first | (with_reducible first | exact HB.out | apply bA | apply bN | apply bD) | exact HB.out))) : w.heap.size ≤ gb187)); have n3_ := Q9a.mk ((by rw [hg]; exact (bZ (by repeat (first | (with_reducible first | exact HB.out | apply bA | apply bN | apply bD) | exact HB.out))) : w.heap.size ≤ gb187)); clear HB; have HB := n0_; have BK187 := n1_; have GW187 := n2_; have GE187 := n3_; clear n0_ n1_ n2_ n3_; clear hb hbox hg; have hcz6_0 : w5.cell? ⟨gb187, 0, none⟩ = some (.int .i64 a0_0) := (kC BK187.out 0).trans rfl; have hcz6_1 : w5.cell? ⟨gb187, 1, none⟩ = some (.int .i64 a0_1) := (kC BK187.out 1).trans rfl; have hcz6_2 : w5.cell? ⟨gb187, 2, none⟩ = some (.slice A0_2 l0_2.length c0_2) := (kC BK187.out 2).trans rfl; have hfz6_0 := kF BK187.out 0; have hfz6_1 := kF BK187.out 1; have hfz6_2 := kF BK187.out 2) | ((with_reducible refine gate_callee (f := 50) rfl ?_); refine goesL_ (some 7) rfl rfl Try.func50 (by kernel_rfl) rfl #[.agg #[.int .i64 a0_0, .int .i64 a0_1, .slice A0_2 l0_2.length c0_2], .int .i64 a1] rfl (by (try simp only [List.map_toArray, List.map_cons, List.map_nil]); first | done | rfl | (simp only [List.length_drop, List.length_take]; rfl)) ?_; (with_reducible refine (r4Is.calls k a0_0 a0_1 _ _ l0_2 a1 true _ ?side1 ?side2 A3.out).mono ?_); (case side1 => repeat (first | exact (Kd.C_below HR0_2.out HB.out) | (with_reducible refine Kd.C_alloc ?_ _) | (with_reducible refine Kd.C_drewN ?_ _) | (with_reducible refine Kd.C_drew ?_))); (case side2 => exact HC0_2.out); rintro e w7 ⟨rfl, hb⟩; refine ⟨_, rfl, ?_⟩; have n0_ := Q9a.mk (kB (g := gb187) (o := .cells #[.int .i64 a0_0, .int .i64 a0_1, .slice A0_2 l0_2.length c0_2] 24 (0, 0)) (by (with_reducible repeat (first | refine kN ?_ _ | refine kD ?_ | refine kA ?_ _)); exact BK187.out) hb); have n1_ := Q9a.mk (bP (by repeat (first | (with_reducible first | exact HB.out | apply bA | apply bN | apply bD | refine bS ?_ GE187.out) | exact HB.out)) hb); clear BK187; clear HB; have BK187 := n0_; have HB := n1_; clear n0_ n1_; (try clear hb); (try clear hb2); (try clear hk); (try clear hi)))
  go_ret
  exact ⟨by first | rfl | (simp [eN, eS] <;> rfl) | (simp [*, eN, eS] <;> rfl), by repeat (first | (with_reducible first | exact HB.out | apply bA | apply bN | apply bD | refine bS ?_ GE187.out) | exact HB.out)⟩
 ·replace c4 := Bool.eq_false_iff.mpr c4
  subst c4
  have H1 : (some 0) = some r := by rw [if_neg (show ¬ (false = true) by decide)] at H; exact H
  clear H
  have H := H1
  clear H1
  obtain rfl := Option.some.inj H
  go_enter Try.func26, Try.ntmps26
  go_wp2_with (first | ((with_reducible refine gate_dst (N := 2) rfl ?_); refine box_event ?hg (N := 2) ?hd (cs := #[.int .i64 a0_0, .int .i64 a0_1, .slice A0_2 l0_2.length c0_2]) (t := 24) ?hr ?_; (case hd => rfl); (case hg => rfl); (case hr => first | (go_simp; done) | (go_simp; rfl)); intro gb187 hg w8 hbox hb; have n0_ := Q9a.mk (bP (by repeat (first | (with_reducible first | exact HB.out | apply bA | apply bN | apply bD) | exact HB.out)) hb); have n1_ := Q9a.mk (hbox); have n2_ := Q9a.mk ((by rw [hg]; exact (bZ (by repeat (first | (with_reducible first | exact HB.out | apply bA | apply bN | apply bD) | exact HB.out))) : w.heap.size ≤ gb187)); have n3_ := Q9a.mk ((by rw [hg]; exact (bZ (by repeat (first | (with_reducible first | exact HB.out | apply bA | apply bN | apply bD) | exact HB.out))) : w.heap.size ≤ gb187)); clear HB; have HB := n0_; have BK187 := n1_; have GW187 := n2_; have GE187 := n3_; clear n0_ n1_ n2_ n3_; clear hb hbox hg; have hcz9_0 : w8.cell? ⟨gb187, 0, none⟩ = some (.int .i64 a0_0) := (kC BK187.out 0).trans rfl; have hcz9_1 : w8.cell? ⟨gb187, 1, none⟩ = some (.int .i64 a0_1) := (kC BK187.out 1).trans rfl; have hcz9_2 : w8.cell? ⟨gb187, 2, none⟩ = some (.slice A0_2 l0_2.length c0_2) := (kC BK187.out 2).trans rfl; have hfz9_0 := kF BK187.out 0; have hfz9_1 := kF BK187.out 1; have hfz9_2 := kF BK187.out 2) | ((with_reducible refine gate_callee (f := 50) rfl ?_); refine goesL_ (some 7) rfl rfl Try.func50 (by kernel_rfl) rfl #[.agg #[.int .i64 a0_0, .int .i64 a0_1, .slice A0_2 l0_2.length c0_2], .int .i64 a1] rfl (by (try simp only [List.map_toArray, List.map_cons, List.map_nil]); first | done | rfl | (simp only [List.length_drop, List.length_take]; rfl)) ?_; (with_reducible refine (r4Is.calls k a0_0 a0_1 _ _ l0_2 a1 false _ ?side1 ?side2 A3.out).mono ?_); (case side1 => repeat (first | exact (Kd.C_below HR0_2.out HB.out) | (with_reducible refine Kd.C_alloc ?_ _) | (with_reducible refine Kd.C_drewN ?_ _) | (with_reducible refine Kd.C_drew ?_))); (case side2 => exact HC0_2.out); rintro e w10 ⟨rfl, hb⟩; refine ⟨_, rfl, ?_⟩; have n0_ := Q9a.mk (kB (g := gb187) (o := .cells #[.int .i64 a0_0, .int .i64 a0_1, .slice A0_2 l0_2.length c0_2] 24 (0, 0)) (by (with_reducible repeat (first | refine kN ?_ _ | refine kD ?_ | refine kA ?_ _)); exact BK187.out) hb); have n1_ := Q9a.mk (bP (by repeat (first | (with_reducible first | exact HB.out | apply bA | apply bN | apply bD | refine bS ?_ GE187.out) | exact HB.out)) hb); clear BK187; clear HB; have BK187 := n0_; have HB := n1_; clear n0_ n1_; (try clear hb); (try clear hb2); (try clear hk); (try clear hi)))
  go_ret
  exact ⟨by first | rfl | (simp [eN, eS] <;> rfl) | (simp [*, eN, eS] <;> rfl), by repeat (first | (with_reducible first | exact HB.out | apply bA | apply bN | apply bD | refine bS ?_ GE187.out) | exact HB.out)⟩
end
end Go.Proofs.Ytbohbfggmnjpdaa.P
end
-- Pb2
section
namespace Go.Proofs.Ytbohbfggmnjpdaa.P
noncomputable section
open Go.RowKit Go.Proofs.Ytbohbfggmnjpdaa.Hand Go.Proofs.YtbohbfggmnjpdaaW.PrintWords Go.Proofs.YtbohbfggmnjpdaaW.PrintLast Go.Proofs.YtbohbfggmnjpdaaW.PrintMore
set_option linter.unusedVariables false
set_option linter.unusedSimpArgs false
mutual
def number_Factor.l0 : Nat → Int → List (S87) → Option ((List (S87)) × Int)
 | 0, _, _ => none
 | k + 1, x0, x4 => if x0 > 1 then ((number_least.f x0).bind fun t126 => (number_Factor.l1 k x0 x4 t126 t126 0)) else (some (x4, 0))
def number_Factor.l1 : Nat → Int → List (S87) → Int → Int → Int → Option ((List (S87)) × Int)
 | 0, _, _, _, _, _ => none
 | k + 1, x0, x4, x5, x128000, x128001 => if x5 = 0 then (none) else (if (Int.tmod x0 x5) = 0 then (number_Factor.l1 k (wrap64 (Int.tdiv x0 x5)) x4 x5 x128000 (wrap64 (x128001 + 1))) else (if x4.length < 8796093022208 then (number_Factor.l0 k x0 (x4 ++ [(⟨x128000, x128001⟩ : S87)])) else (none)))
end
def number_Factor.f (k : Nat) (a0 : Int) : Option ((List (S87)) × Int) := (number_in.f a0 1).bind fun t125 => (if t125 = true then (number_Factor.l0 k a0 ([] : List (S87))) else (some (([] : List (S87)), 6)))
set_option maxHeartbeats 8000000 in
set_option maxRecDepth 100000 in
theorem number_Factor.calls (k : Nat) (a0 : Int) (r1 : List (S87)) (r2 : Int) (w : World) (h : number_Factor.f k a0 = some (r1, r2)) :
  Calls Try.prog 62 #[.int .i64 a0] w fun e w' => ∃ v0_ : Value, e = .returned (.tuple #[v0_, .int .i64 r2]) ∧ Kd.R k87 87 w' w.heap.size (fun _ => True) v0_ r1 ∧ Below w.heap.size w w' := by
 have hu87 := Try.underlying87
 have HB := Q9a.mk (Below.refl w.heap.size w)
 have H : ((number_in.f a0 1).bind fun t125 => (if t125 = true then (number_Factor.l0 k a0 ([] : List (S87))) else (some (([] : List (S87)), 6)))) = some (r1, r2) := h
 clear h
 replace H := Option.bind_eq_some_iff.mp H
 obtain ⟨t125, A20, H⟩ := H
 replace H : (if t125 = true then (number_Factor.l0 k a0 ([] : List (S87))) else (some (([] : List (S87)), 6))) = some (r1, r2) := H
 have A2 := Q9a.mk A20
 clear A20
 by_cases c3 : t125 = true
 ·subst c3
  have H1 : (number_Factor.l0 k a0 ([] : List (S87))) = some (r1, r2) := by rw [if_pos rfl] at H; exact H
  clear H
  have H := H1
  clear H1
  have H' := Q9a.mk H
  clear H
  go_enter Try.func62, Try.ntmps62
  go_wp2_with (first | ((with_reducible refine gate_callee (f := 69) rfl ?_); refine goesL_ (some 8) rfl rfl Try.func69 (by kernel_rfl) rfl #[.int .i64 a0, .int .i64 1] rfl (by (try simp only [List.map_toArray, List.map_cons, List.map_nil]); first | done | rfl | (simp only [List.length_drop, List.length_take]; rfl)) ?_; (with_reducible refine (number_in.calls a0 1 true _ A2.out).mono ?_); rintro e w' ⟨rfl, ⟨nd, rfl⟩⟩; refine ⟨_, rfl, ?_⟩))
  go_loopg [0, 4] k (fun kq v0 v4 w' => ∃ (x0_1 : Int) (x4_1 : List (S87)), v0 = .int .i64 x0_1 ∧ Q9a (number_Factor.l0 kq x0_1 x4_1 = some (r1, r2)) ∧ Q9a (kq ≤ k) ∧ Q9a (Kd.R k87 87 w' w.heap.size (fun _ => True) v4 x4_1) ∧ Q9a (Below w.heap.size w w'))
  case atStart => exact ⟨(a0), (([] : List (S87))), (by first | rfl | (simp; done) | (simp [*]; done)), H', ⟨Nat.le_refl _⟩, ⟨by first | exact Kd.R_nil _ _ _ _ _ | exact Kd.N_nil _ _ _ _ _ | exact Kd.V_nil _ _ _ _ _ | exact Kd.Q_nil _ _ _ _ _ | exact Kd.S_nil _ _ _ _ _⟩, ⟨by repeat (first | (with_reducible first | exact HB.out | apply bA | apply bN | apply bD) | exact HB.out)⟩⟩
  case round =>
   clear H'
   try clear p2
   try clear c3
   obtain ⟨x0_1, x4_1, rfl, HA, HK1, HO_4, HB⟩ := hrel
   cases gk with
   | zero => exact absurd HA.out (by simp [number_Factor.l0])
   | succ k1 =>
    have H := HA.out
    clear HA
    simp only [number_Factor.l0] at H
    by_cases c4 : x0_1 > 1
    ·rw [if_pos c4] at H
     have c4b0 : decide (1 < x0_1) = true := decide_eq_true c4
     clear c4
     replace H := Option.bind_eq_some_iff.mp H
     obtain ⟨t126, A50, H⟩ := H
     replace H : (number_Factor.l1 k1 x0_1 x4_1 t126 t126 0) = some (r1, r2) := H
     have A5 := Q9a.mk A50
     clear A50
     have H' := Q9a.mk H
     clear H
     go_wp2_with (first | ((with_reducible refine gate_callee (f := 70) rfl ?_); refine goesL_ (some 13) rfl rfl Try.func70 (by kernel_rfl) rfl #[.int .i64 x0_1] rfl (by (try simp only [List.map_toArray, List.map_cons, List.map_nil]); first | done | rfl | (simp only [List.length_drop, List.length_take]; rfl)) ?_; (with_reducible refine (number_least.calls x0_1 t126 _ A5.out).mono ?_); rintro e w6 ⟨rfl, hb⟩; refine ⟨_, rfl, ?_⟩; have n0_ := Q9a.mk (Kd.R_below (by (with_reducible repeat (first | apply Kd.R_alloc | apply Kd.R_drewN | apply Kd.R_drew)); exact HO_4.out) hb); have n1_ := Q9a.mk (bP (by repeat (first | (with_reducible first | exact HB.out | apply bA | apply bN | apply bD) | exact HB.out)) hb); clear HO_4; clear HB; have HO_4 := n0_; have HB := n1_; clear n0_ n1_; (try clear hb); (try clear hb2); (try clear hk); (try clear hi)) | ((with_reducible refine gate_dst (N := 6) rfl ?_); refine box_event ?hg (N := 6) ?hd (cs := #[.int .i64 0, .int .i64 0]) (t := 87) ?hr ?_; (case hd => rfl); (case hg => rfl); (case hr => first | (go_simp; done) | (go_simp; rfl)); intro gb127 hg w7 hbox hb; have n0_ := Q9a.mk (Kd.R_below (Kd.R_elderB (by (with_reducible repeat (first | apply Kd.R_alloc | apply Kd.R_drewN | apply Kd.R_drew)); exact HO_4.out) gb127 (Nat.le_of_eq hg.symm)) hb); have n1_ := Q9a.mk (bP (by repeat (first | (with_reducible first | exact HB.out | apply bA | apply bN | apply bD) | exact HB.out)) hb); have n2_ := Q9a.mk (hbox); have n3_ := Q9a.mk ((by rw [hg]; exact (bZ (by repeat (first | (with_reducible first | exact HB.out | apply bA | apply bN | apply bD) | exact HB.out))) : w.heap.size ≤ gb127)); have n4_ := Q9a.mk ((by rw [hg]; exact (bZ (by repeat (first | (with_reducible first | exact HB.out | apply bA | apply bN | apply bD) | exact HB.out))) : w.heap.size ≤ gb127)); clear HO_4; clear HB; have HO_4 := n0_; have HB := n1_; have BK127 := n2_; have GW127 := n3_; have GE127 := n4_; clear n0_ n1_ n2_ n3_ n4_; clear hb hbox hg; have hcz8_0 : w7.cell? ⟨gb127, 0, none⟩ = some (.int .i64 0) := (kC BK127.out 0).trans rfl; have hcz8_1 : w7.cell? ⟨gb127, 1, none⟩ = some (.int .i64 0) := (kC BK127.out 1).trans rfl; have hfz8_0 := kF BK127.out 0; have hfz8_1 := kF BK127.out 1))
     go_loopg [0] k1 (fun kq v0 w' => ∃ (x0_2 : Int) (x128001_2 : Int), v0 = .int .i64 x0_2 ∧ Q9a (number_Factor.l1 kq x0_2 x4_1 t126 t126 x128001_2 = some (r1, r2)) ∧ Q9a (kq ≤ k1) ∧ Q9a (Kd.R k87 87 w' w.heap.size (fun k_ => k_ ≠ gb127) u4 x4_1) ∧ Q9a (w'.heap[gb127]? = some (.cells #[.int .i64 t126, .int .i64 x128001_2] 87 (0, 0))) ∧ Q9a (Below w.heap.size w w'))
     case atStart => exact ⟨(x0_1), (0), (by first | rfl | (simp; done) | (simp [*]; done)), H', ⟨Nat.le_refl _⟩, ⟨by (with_reducible repeat (first | apply Kd.R_alloc | apply Kd.R_drewN | apply Kd.R_drew)); exact Kd.R_mono (Kd.R_far (p := ⟨gb127, 1, none⟩) (Kd.R_far (p := ⟨gb127, 0, none⟩) (Kd.R_mono HO_4.out (fun k_ hk => (⟨hk, hk.2⟩ : _ ∧ k_ ≠ gb127))) (fun _ hk => hk.2) (.int .i64 t126)) (fun _ hk => hk.2) (.int .i64 0)) (fun _ hk => hk.1.2)⟩, ⟨by (with_reducible repeat (first | refine kN ?_ _ | refine kD ?_ | refine kA ?_ _)); refine blk_put (cs := #[.int .i64 t126, .int .i64 0]) ?_ 1 _ rfl; (with_reducible repeat (first | refine kN ?_ _ | refine kD ?_ | refine kA ?_ _)); refine blk_put (cs := #[.int .i64 0, .int .i64 0]) ?_ 0 _ rfl; (with_reducible repeat (first | refine kN ?_ _ | refine kD ?_ | refine kA ?_ _)); exact BK127.out⟩, ⟨by repeat (first | (with_reducible first | exact HB.out | apply bA | apply bN | apply bD | refine bS ?_ GE127.out) | exact HB.out)⟩⟩
     case round =>
      clear H'
      try clear p2
      try clear c3
      try clear c4
      try clear c4b0
      try clear c6
      try clear c7
      try clear hcz8_0
      try clear hcz8_1
      try clear hfz8_0
      try clear hfz8_1
      try clear p2
      obtain ⟨x0_2, x128001_2, rfl, HA, HK2, HO_4, BK127, HB⟩ := hrel
      cases gk with
      | zero => exact absurd HA.out (by simp [number_Factor.l1])
      | succ k2 =>
       have H := HA.out
       clear HA
       simp only [number_Factor.l1] at H
       by_cases c9 : t126 = 0
       ·rw [if_pos c9] at H
        exact absurd H (by simp)
       ·rw [if_neg c9] at H
        have c9b0 : (t126 == 0) = false := beq_eq_false_iff_ne.mpr c9
        have c9b1 : (t126 != 0) = true := bne_iff_ne.mpr c9
        by_cases c10 : (Int.tmod x0_2 t126) = 0
        ·rw [if_pos c10] at H
         have c10b0 : ((Int.tmod x0_2 t126) == 0) = true := beq_iff_eq.mpr c10
         have c10b1 : ((Int.tmod x0_2 t126) != 0) = false := bne_eq_false_iff_eq.mpr c10
         clear c10
         have H' := Q9a.mk H
         clear H
         have hcz11_0 : wr.cell? ⟨gb127, 0, none⟩ = some (.int .i64 t126) := (kC BK127.out 0).trans rfl
         have hcz11_1 : wr.cell? ⟨gb127, 1, none⟩ = some (.int .i64 x128001_2) := (kC BK127.out 1).trans rfl
         have hfz11_0 := kF BK127.out 0
         have hfz11_1 := kF BK127.out 1
         go_wp2
         go_roundg k2
         case measure => have := HK1.out; have := HK2.out; omega
         case rel => exact ⟨(wrap64 (Int.tdiv x0_2 t126)), (wrap64 (x128001_2 + 1)), (by first | rfl | (simp; done) | (simp [*]; done)), H', ⟨by have := HK1.out; have := HK2.out; omega⟩, ⟨by (with_reducible repeat (first | apply Kd.R_alloc | apply Kd.R_drewN | apply Kd.R_drew)); exact Kd.R_mono (Kd.R_far (p := ⟨gb127, 1, none⟩) (Kd.R_mono HO_4.out (fun k_ hk => (⟨hk, hk⟩ : _ ∧ k_ ≠ gb127))) (fun _ hk => hk.2) (.int .i64 (wrap64 (x128001_2 + 1)))) (fun _ hk => hk.1)⟩, ⟨by (with_reducible repeat (first | refine kN ?_ _ | refine kD ?_ | refine kA ?_ _)); refine blk_put (cs := #[.int .i64 t126, .int .i64 x128001_2]) ?_ 1 _ rfl; (with_reducible repeat (first | refine kN ?_ _ | refine kD ?_ | refine kA ?_ _)); exact BK127.out⟩, ⟨by repeat (first | (with_reducible first | exact HB.out | apply bA | apply bN | apply bD | refine bS ?_ GE127.out) | exact HB.out)⟩⟩
        ·rw [if_neg c10] at H
         have c10b0 : ((Int.tmod x0_2 t126) == 0) = false := beq_eq_false_iff_ne.mpr c10
         have c10b1 : ((Int.tmod x0_2 t126) != 0) = true := bne_iff_ne.mpr c10
         by_cases c12 : x4_1.length < 8796093022208
         ·rw [if_pos c12] at H
          have LMc12 := Q9a.mk c12
          clear c12
          obtain ⟨y128, hy128⟩ : ∃ y_ : List (S87), y_ = (x4_1 ++ [(⟨t126, x128001_2⟩ : S87)]) := ⟨_, rfl⟩
          replace H : (number_Factor.l0 k2 x0_2 y128) = some (r1, r2) := by first | (rw [hy128]; with_reducible exact H) | (have H2_ := (Option.bind_some _ _).symm.trans H; rw [hy128]; with_reducible exact H2_) | (have H2_ := (Option.bind_some _ _).symm.trans H; with_reducible exact H2_) | with_reducible exact H | (rw [hy128]; exact H) | exact H
          have Ny128 := Q9a.mk hy128
          clear hy128
          have H' := Q9a.mk H
          clear H
          have hcz13_0 : wr.cell? ⟨gb127, 0, none⟩ = some (.int .i64 t126) := (kC BK127.out 0).trans rfl
          have hcz13_1 : wr.cell? ⟨gb127, 1, none⟩ = some (.int .i64 x128001_2) := (kC BK127.out 1).trans rfl
          have hfz13_0 := kF BK127.out 0
          have hfz13_1 := kF BK127.out 1
          go_wp2_with (first | ((with_reducible refine gate_builtin (b := .append) (xs := #[.tmp 27, .tmp 29]) rfl ?_); at_builtin; refine Kd.R_append k87 (w0 := w) w.heap.size rfl (.tmp 27) (.tmp 29) 83 87 (.agg #[(.int .i64 0), (.int .i64 0)]) 16 rfl Try.underlying83 info87 rfl (by decide) (by omega) u4 x4_1 (⟨t126, x128001_2⟩ : S87) [.int .i64 t126, .int .i64 x128001_2] (fun k_ => k_ ≠ gb127) (fun _ => False) rfl rfl ?aP (fun _ hk => hk.elim) ?aF ?aO ?aB ?aS ?aL ?_; (case aP => exact k87_mkM _ _ _ (⟨t126, x128001_2⟩ : S87)); (case aB => exact (by repeat (first | (with_reducible first | exact HB.out | apply bA | apply bN | apply bD | refine bS ?_ GE127.out) | exact HB.out))); (case aF => exact (fun k_ hk => Kd.freshB (g := gb127) (o := .cells #[.int .i64 t126, .int .i64 x128001_2] 87 (0, 0)) (by (with_reducible repeat (first | refine kN ?_ _ | refine kD ?_ | refine kA ?_ _)); exact BK127.out) k_ hk)); (case aO => exact (by (with_reducible repeat (first | apply Kd.R_alloc | apply Kd.R_drewN | apply Kd.R_drew)); exact HO_4.out)); (case aS => exact (bZ (by repeat (first | (with_reducible first | exact HB.out | apply bA | apply bN | apply bD | refine bS ?_ GE127.out) | exact HB.out)))); (case aL => have := LMc12.out; omega); intro v129 w14 ho hb hg hat; rw [← Ny128.out] at ho; have n0_ := Q9a.mk (blk_grown (g := gb127) (o := .cells #[.int .i64 t126, .int .i64 x128001_2] 87 (0, 0)) (by (with_reducible repeat (first | refine kN ?_ _ | refine kD ?_ | refine kA ?_ _)); exact BK127.out) hg (Kd.R_away HO_4.out (fun _ hk => hk))); have n1_ := Q9a.mk (hb); have n2_ := Q9a.mk (ho); clear BK127; clear HB; clear HO_4; have BK127 := n0_; have HB := n1_; have HO130 := n2_; clear n0_ n1_ n2_; clear ho hb hg hat))
          go_roundg k2
          case measure => have := HK1.out; have := HK2.out; omega
          case rel => exact ⟨(x0_2), (y128), (by first | rfl | (simp; done) | (simp [*]; done)), H', ⟨by have := HK1.out; have := HK2.out; omega⟩, ⟨by (with_reducible repeat (first | apply Kd.R_alloc | apply Kd.R_drewN | apply Kd.R_drew)); exact Kd.R_mono HO130.out (fun _ hk => trivial)⟩, ⟨by repeat (first | (with_reducible first | exact HB.out | apply bA | apply bN | apply bD | refine bS ?_ GE127.out) | exact HB.out)⟩⟩
         ·rw [if_neg c12] at H
          exact absurd H (by simp)
    ·rw [if_neg c4] at H
     have c4b0 : decide (1 < x0_1) = false := decide_eq_false c4
     clear c4
     simp only [Option.some.injEq, Prod.mk.injEq] at H
     obtain ⟨rfl, rfl⟩ := H
     go_wp2
     go_ret2
     exact ⟨_, by first | rfl | (simp [eN, eS] <;> rfl) | (simp [*, eN, eS] <;> rfl), by (with_reducible repeat (first | apply Kd.R_alloc | apply Kd.R_drewN | apply Kd.R_drew)); exact HO_4.out, by repeat (first | (with_reducible first | exact HB.out | apply bA | apply bN | apply bD) | exact HB.out)⟩
 ·replace c3 := Bool.eq_false_iff.mpr c3
  subst c3
  have H1 : (some (([] : List (S87)), 6)) = some (r1, r2) := by rw [if_neg (show ¬ (false = true) by decide)] at H; exact H
  clear H
  have H := H1
  clear H1
  simp only [Option.some.injEq, Prod.mk.injEq] at H
  obtain ⟨rfl, rfl⟩ := H
  go_enter Try.func62, Try.ntmps62
  go_wp2_with (first | ((with_reducible refine gate_callee (f := 69) rfl ?_); refine goesL_ (some 8) rfl rfl Try.func69 (by kernel_rfl) rfl #[.int .i64 a0, .int .i64 1] rfl (by (try simp only [List.map_toArray, List.map_cons, List.map_nil]); first | done | rfl | (simp only [List.length_drop, List.length_take]; rfl)) ?_; (with_reducible refine (number_in.calls a0 1 false _ A2.out).mono ?_); rintro e w' ⟨rfl, ⟨nd, rfl⟩⟩; refine ⟨_, rfl, ?_⟩))
  go_ret2
  exact ⟨_, by first | rfl | (simp [eN, eS] <;> rfl) | (simp [*, eN, eS] <;> rfl), by first | exact Kd.R_nil _ _ _ _ _ | exact Kd.N_nil _ _ _ _ _ | exact Kd.V_nil _ _ _ _ _ | exact Kd.Q_nil _ _ _ _ _ | exact Kd.S_nil _ _ _ _ _, by repeat (first | (with_reducible first | exact HB.out | apply bA | apply bN | apply bD) | exact HB.out)⟩
def dlog_primes.l0 : Nat → List Int → List (S87) → Int → Int → Option (List Int)
 | 0, _, _, _, _ => none
 | k + 1, x5, x16, x17, x18 => if x18 < x17 then (if 0 ≤ x18 then (if x18 < (x16.length : Int) then (if x18 < (x5.length : Int) then (dlog_primes.l0 k (x5.set (x18 : Int).toNat ((rd_T87 x16 x18).f0)) x16 x17 (wrap64 (x18 + 1))) else (none)) else (none)) else (none)) else (some x5)
def dlog_primes.f (k : Nat) (a0 : Int) : Option (List Int) := (number_Factor.f k a0).bind fun bt131 => (if 0 ≤ (bt131.1.length : Int) then (if ((bt131.1.length : Int) : Int).toNat ≤ 35184372088832 then (dlog_primes.l0 k (List.replicate ((bt131.1.length : Int) : Int).toNat 0) bt131.1 (bt131.1.length : Int) 0) else (none)) else (none))
set_option maxHeartbeats 8000000 in
set_option maxRecDepth 100000 in
theorem dlog_primes.calls (k : Nat) (a0 : Int) (r : List Int) (w : World) (h : dlog_primes.f k a0 = some r) :
  Calls Try.prog 43 #[.int .i64 a0] w fun e w' => ∃ v0_ : Value, e = .returned (v0_) ∧ Kd.R (Kd.int .i64) 3 w' w.heap.size (fun _ => True) v0_ r ∧ Below w.heap.size w w' := by
 have hu87 := Try.underlying87
 have HB := Q9a.mk (Below.refl w.heap.size w)
 have H : ((number_Factor.f k a0).bind fun bt131 => (if 0 ≤ (bt131.1.length : Int) then (if ((bt131.1.length : Int) : Int).toNat ≤ 35184372088832 then (dlog_primes.l0 k (List.replicate ((bt131.1.length : Int) : Int).toNat 0) bt131.1 (bt131.1.length : Int) 0) else (none)) else (none))) = some r := h
 clear h
 replace H := Option.bind_eq_some_iff.mp H
 obtain ⟨⟨t131, t132⟩, A20, H⟩ := H
 replace H : (if 0 ≤ (t131.length : Int) then (if ((t131.length : Int) : Int).toNat ≤ 35184372088832 then (dlog_primes.l0 k (List.replicate ((t131.length : Int) : Int).toNat 0) t131 (t131.length : Int) 0) else (none)) else (none)) = some r := H
 have A2 := Q9a.mk A20
 clear A20
 by_cases c3 : 0 ≤ (t131.length : Int)
 ·rw [if_pos c3] at H
  have c3b0 := eq_true c3
  have c3b1 : decide (0 ≤ (t131.length : Int)) = true := decide_eq_true c3
  clear c3
  by_cases c4 : ((t131.length : Int) : Int).toNat ≤ 35184372088832
  ·rw [if_pos c4] at H
   have c4b0 := eq_true c4
   have c4b1 : decide (((t131.length : Int) : Int).toNat ≤ 35184372088832) = true := decide_eq_true c4
   clear c4
   obtain ⟨y135, hy135⟩ : ∃ y_ : List Int, y_ = (List.replicate ((t131.length : Int) : Int).toNat 0) := ⟨_, rfl⟩
   replace H : (dlog_primes.l0 k y135 t131 (t131.length : Int) 0) = some r := by first | (rw [hy135]; with_reducible exact H) | (have H2_ := (Option.bind_some _ _).symm.trans H; rw [hy135]; with_reducible exact H2_) | (have H2_ := (Option.bind_some _ _).symm.trans H; with_reducible exact H2_) | with_reducible exact H | (rw [hy135]; exact H) | exact H
   have Ny135 := Q9a.mk hy135
   clear hy135
   have H' := Q9a.mk H
   clear H
   go_enter Try.func43, Try.ntmps43
   go_wp2_with (first | ((with_reducible refine gate_callee (f := 62) rfl ?_); refine goesL_ (some 10) rfl rfl Try.func62 (by kernel_rfl) rfl #[.int .i64 a0] rfl (by (try simp only [List.map_toArray, List.map_cons, List.map_nil]); first | done | rfl | (simp only [List.length_drop, List.length_take]; rfl)) ?_; (with_reducible refine (number_Factor.calls k a0 t131 t132 _ A2.out).mono ?_); rintro e w5 ⟨v133, rfl, ho0, hb⟩; refine ⟨_, rfl, ?_⟩; have n0_ := Q9a.mk (Kd.R_lower ho0 (bZ (by repeat (first | (with_reducible first | exact HB.out | apply bA | apply bN | apply bD) | exact HB.out)))); have n1_ := Q9a.mk (bP (by repeat (first | (with_reducible first | exact HB.out | apply bA | apply bN | apply bD) | exact HB.out)) hb); clear HB; have HO134 := n0_; have HB := n1_; clear n0_ n1_; (try clear hb); (try clear hb2); (try clear hk); (try clear hi); (try clear ho0); obtain ⟨Ao6, co6, eo6⟩ := Kd.R_slice HO134.out; subst eo6) | ((with_reducible refine gate_dst (N := 15) rfl ?_); refine Kd.R_make (Kd.int .i64) _ 3 rfl (N := 15) rfl 22 _ _ rfl (t131.length : Int) rfl rfl Try.underlying22 (.int .i64 0) 8 info3 rfl (by decide) (by omega) 0 (ok := fun _ => True) (okp := fun _ => True) rfl (fun _ hk => hk) trivial (of_decide_eq_true (by first | (with_reducible assumption) | assumption)) (Nat.le_trans (Nat.mul_le_mul_right _ (of_decide_eq_true (by first | (with_reducible assumption) | assumption) : (t131.length : Int).toNat ≤ 35184372088832)) (by omega)) (Below.refl _ _) (Nat.le_refl _) ?_; intro v136 w7 ho8 hb hg_ hnew_; clear hg_ hnew_; (first | rw [← Ny135.out] at ho8 | (simp only [Int.reduceToNat] at ho8; rw [← Ny135.out] at ho8)); have n0_ := Q9a.mk (Kd.R_below (by (with_reducible repeat (first | apply Kd.R_alloc | apply Kd.R_drewN | apply Kd.R_drew)); exact HO134.out) hb); have n1_ := Q9a.mk (Kd.R_lower ho8 (bZ (by repeat (first | (with_reducible first | exact HB.out | apply bA | apply bN | apply bD) | exact HB.out)))); have n2_ := Q9a.mk (bP (by repeat (first | (with_reducible first | exact HB.out | apply bA | apply bN | apply bD) | exact HB.out)) hb); clear HO134; clear HB; have HO134 := n0_; have HO137 := n1_; have HB := n2_; clear n0_ n1_ n2_; clear hb ho8))
   go_loopg [18] k (fun kq v18 w' => ∃ (x5_1 : List Int) (x18_1 : Int), v18 = .int .i64 x18_1 ∧ Q9a (dlog_primes.l0 kq x5_1 t131 (t131.length : Int) x18_1 = some r) ∧ Q9a (kq ≤ k) ∧ Q9a (Kd.R (Kd.int .i64) 3 w' w.heap.size (fun _ => True) v136 x5_1) ∧ Q9a (Kd.R k87 87 w' w.heap.size (fun _ => True) (.slice Ao6 t131.length co6) t131) ∧ Q9a (Below w.heap.size w w'))
   case atStart => exact ⟨(y135), (0), (by first | rfl | (simp; done) | (simp [*]; done)), H', ⟨Nat.le_refl _⟩, ⟨by (with_reducible repeat (first | apply Kd.R_alloc | apply Kd.R_drewN | apply Kd.R_drew)); exact HO137.out⟩, ⟨by (with_reducible repeat (first | apply Kd.R_alloc | apply Kd.R_drewN | apply Kd.R_drew)); exact HO134.out⟩, ⟨by repeat (first | (with_reducible first | exact HB.out | apply bA | apply bN | apply bD) | exact HB.out)⟩⟩
   case round =>
    clear H'
    try clear p2
    try clear c3
    try clear c3b0
    try clear c3b1
    try clear c4
    try clear c4b0
    try clear c4b1
    try clear c6
    obtain ⟨x5_1, x18_1, rfl, HA, HK1, HO_5, HO_16, HB⟩ := hrel
    cases gk with
    | zero => exact absurd HA.out (by simp [dlog_primes.l0])
    | succ k1 =>
     have H := HA.out
     clear HA
     simp only [dlog_primes.l0] at H
     by_cases c9 : x18_1 < (t131.length : Int)
     ·rw [if_pos c9] at H
      have c9b0 : decide (x18_1 < (t131.length : Int)) = true := decide_eq_true c9
      clear c9
      by_cases c10 : 0 ≤ x18_1
      ·rw [if_pos c10] at H
       have c10b0 : decide (0 ≤ x18_1) = true := decide_eq_true c10
       clear c10
       by_cases c11 : x18_1 < (t131.length : Int)
       ·rw [if_pos c11] at H
        have c11b0 : decide (x18_1 < (t131.length : Int)) = true := decide_eq_true c11
        clear c11
        by_cases c12 : x18_1 < (x5_1.length : Int)
        ·rw [if_pos c12] at H
         have c12b0 : decide (x18_1 < (x5_1.length : Int)) = true := decide_eq_true c12
         clear c12
         obtain ⟨y140, hy140⟩ : ∃ y_ : List Int, y_ = (x5_1.set (x18_1 : Int).toNat ((rd_T87 t131 x18_1).f0)) := ⟨_, rfl⟩
         replace H : (dlog_primes.l0 k1 y140 t131 (t131.length : Int) (wrap64 (x18_1 + 1))) = some r := by first | (rw [hy140]; with_reducible exact H) | (have H2_ := (Option.bind_some _ _).symm.trans H; rw [hy140]; with_reducible exact H2_) | (have H2_ := (Option.bind_some _ _).symm.trans H; with_reducible exact H2_) | with_reducible exact H | (rw [hy140]; exact H) | exact H
         have Ny140 := Q9a.mk hy140
         clear hy140
         have H' := Q9a.mk H
         clear H
         have p138 : 0 ≤ (x18_1 : Int) := of_decide_eq_true (by first | (with_reducible assumption) | assumption)
         have q138 : x18_1 < (t131.length : Int) := of_decide_eq_true (by first | (with_reducible assumption) | assumption)
         obtain ⟨ad138, e138, hx138_0, hx138_1⟩ := at_T87 (Kd.R_reads' HO_16.out).2.2 x18_1 p138 q138
         cases e138
         replace p138 := eq_true p138
         replace q138 := eq_true q138
         go_wp2_with (first | ((with_reducible refine gate_dst (N := 7) rfl ?_); refine box_event ?hg (N := 7) ?hd (cs := #[.int .i64 0, .int .i64 0]) (t := 87) ?hr ?_; (case hd => rfl); (case hg => rfl); (case hr => first | (go_simp; done) | (go_simp; rfl)); intro gb139 hg w14 hbox hb; have n0_ := Q9a.mk (Kd.R_below (by (with_reducible repeat (first | apply Kd.R_alloc | apply Kd.R_drewN | apply Kd.R_drew)); exact HO_5.out) hb); have n1_ := Q9a.mk (Kd.R_below (Kd.R_elderB (by (with_reducible repeat (first | apply Kd.R_alloc | apply Kd.R_drewN | apply Kd.R_drew)); exact HO_16.out) gb139 (Nat.le_of_eq hg.symm)) hb); have n2_ := Q9a.mk (bP (by repeat (first | (with_reducible first | exact HB.out | apply bA | apply bN | apply bD) | exact HB.out)) hb); have n3_ := Q9a.mk (hbox); have n4_ := Q9a.mk ((by rw [hg]; exact (bZ (by repeat (first | (with_reducible first | exact HB.out | apply bA | apply bN | apply bD) | exact HB.out))) : w.heap.size ≤ gb139)); have n5_ := Q9a.mk ((by rw [hg]; exact (bZ (by repeat (first | (with_reducible first | exact HB.out | apply bA | apply bN | apply bD) | exact HB.out))) : w.heap.size ≤ gb139)); clear HO_5; clear HO_16; clear HB; have HO_5 := n0_; have HO_16 := n1_; have HB := n2_; have BK139 := n3_; have GW139 := n4_; have GE139 := n5_; clear n0_ n1_ n2_ n3_ n4_ n5_; clear hb hbox hg; have hcz15_0 : w14.cell? ⟨gb139, 0, none⟩ = some (.int .i64 0) := (kC BK139.out 0).trans rfl; have hcz15_1 : w14.cell? ⟨gb139, 1, none⟩ = some (.int .i64 0) := (kC BK139.out 1).trans rfl; have hfz15_0 := kF BK139.out 0; have hfz15_1 := kF BK139.out 1) | ((with_reducible refine gate_store (t := 87) (p := 7) rfl ?_); refine store_event (t := 87) (p := 7) (v := ?vo_w16) (w1 := ((w14.setCell ⟨gb139, 0, none⟩ (.int .i64 ((rd_T87 t131 x18_1).f0))).setCell ⟨gb139, 1, none⟩ (.int .i64 ((rd_T87 t131 x18_1).f1)))) ?hg ?ho ?hn ?hr ?_; (case ho => rfl); (case hg => rfl); (case hn => rfl); (case hr => first | (go_simp; done) | (go_simp; rfl)); intro w16 hw; have n0_ : Q9a (Kd.R (Kd.int .i64) 3 w16 w.heap.size (fun _ => True) v136 x5_1) := ⟨(by rw [hw]; exact (by (with_reducible repeat (first | apply Kd.R_alloc | apply Kd.R_drewN | apply Kd.R_drew)); exact Kd.R_mono (Kd.R_far (p := ⟨gb139, 1, none⟩) (Kd.R_far (p := ⟨gb139, 0, none⟩) (Kd.R_types HO_5.out BK139.out (by decide)) (fun _ hk => hk.2) (.int .i64 ((rd_T87 t131 x18_1).f0))) (fun _ hk => hk.2) (.int .i64 ((rd_T87 t131 x18_1).f1))) (fun _ hk => trivial)))⟩; have n1_ : Q9a (Kd.R k87 87 w16 w.heap.size (fun k_ => k_ ≠ gb139) (.slice (some ad138) t131.length co6) t131) := ⟨(by rw [hw]; exact (by (with_reducible repeat (first | apply Kd.R_alloc | apply Kd.R_drewN | apply Kd.R_drew)); exact Kd.R_mono (Kd.R_far (p := ⟨gb139, 1, none⟩) (Kd.R_far (p := ⟨gb139, 0, none⟩) (Kd.R_mono HO_16.out (fun k_ hk => (⟨hk, hk.2⟩ : _ ∧ k_ ≠ gb139))) (fun _ hk => hk.2) (.int .i64 ((rd_T87 t131 x18_1).f0))) (fun _ hk => hk.2) (.int .i64 ((rd_T87 t131 x18_1).f1))) (fun _ hk => hk.1.2)))⟩; have n2_ : Q9a (w16.heap[gb139]? = some (.cells #[.int .i64 ((rd_T87 t131 x18_1).f0), .int .i64 ((rd_T87 t131 x18_1).f1)] 87 (0, 0))) := ⟨(by rw [hw]; exact (by (with_reducible repeat (first | refine kN ?_ _ | refine kD ?_ | refine kA ?_ _)); refine blk_put (cs := #[.int .i64 ((rd_T87 t131 x18_1).f0), .int .i64 0]) ?_ 1 _ rfl; (with_reducible repeat (first | refine kN ?_ _ | refine kD ?_ | refine kA ?_ _)); refine blk_put (cs := #[.int .i64 0, .int .i64 0]) ?_ 0 _ rfl; (with_reducible repeat (first | refine kN ?_ _ | refine kD ?_ | refine kA ?_ _)); exact BK139.out))⟩; have n3_ : Q9a (Below w.heap.size w w16) := ⟨(by rw [hw]; exact (by repeat (first | (with_reducible first | exact HB.out | apply bA | apply bN | apply bD | refine bS ?_ GE139.out) | exact HB.out)))⟩; clear hw; clear HO_5; clear HO_16; clear BK139; clear HB; have HO_5 := n0_; have HO_16 := n1_; have BK139 := n2_; have HB := n3_; clear n0_ n1_ n2_ n3_; have hcz17_0 : w16.cell? ⟨gb139, 0, none⟩ = some (.int .i64 ((rd_T87 t131 x18_1).f0)) := (kC BK139.out 0).trans rfl; have hcz17_1 : w16.cell? ⟨gb139, 1, none⟩ = some (.int .i64 ((rd_T87 t131 x18_1).f1)) := (kC BK139.out 1).trans rfl; have hfz17_0 := kF BK139.out 0; have hfz17_1 := kF BK139.out 1; have p13 : 0 ≤ (x18_1 : Int) := of_decide_eq_true (by first | (with_reducible assumption) | assumption); have q13 : (x18_1 : Int) < ((x5_1.length : Int) : Int) := of_decide_eq_true (by first | (with_reducible assumption) | assumption); obtain ⟨go13, co13, eo13, gb13, gl13, cl13, HG13⟩ := Kd.R_form HO_5.out (by omega); (first | cases eo13 | (injection eo13 with ea_ en_ ec_; (first | subst ea_ | (injection ea_ with ea_; subst ea_)); subst ec_; clear en_)); have GB13 := Q9a.mk gb13; have GG13 := Q9a.mk HG13; clear gb13 gl13 HG13; obtain ⟨hx13_0, hf13_0⟩ := Kd.R_celln 0 HO_5.out (x18_1 : Int) p13 q13; replace p13 := eq_true p13; replace q13 := eq_true q13; obtain ⟨hy18_, hz18_⟩ := Kd.R_celln 0 HO_5.out (x18_1 : Int) (of_decide_eq_true (by first | (with_reducible assumption) | assumption)) (of_decide_eq_true (by first | (with_reducible assumption) | assumption)); have HP18 := Kd.R_putg HO_5.out (x18_1 : Int) ((rd_T87 t131 x18_1).f0)) | ((with_reducible refine gate_store (t := 3) (p := 27) rfl ?_); refine store_event (t := 3) (p := 27) (v := ?vo_w19) (w1 := (w16.setCell ⟨go13, (x18_1 : Int).toNat, none⟩ (.int .i64 ((rd_T87 t131 x18_1).f0)))) ?hg ?ho ?hn ?hr ?_; (case ho => rfl); (case hg => rfl); (case hn => rfl); (case hr => first | (go_simp; done) | (go_simp; rfl)); intro w19 hw; have hg : w16.grownBy w19 (some go13) := (by rw [hw]; exact HP18.2); have hp_ : Kd.R (Kd.int .i64) 3 w19 w.heap.size (fun _ => True) (.slice (some ⟨go13, 0, none⟩) x5_1.length co13) y140 := (by rw [hw, Ny140.out]; exact HP18.1); clear HP18; have n0_ := Q9a.mk (hp_); have n1_ := Q9a.mk (Kd.R_over' (v := (.slice (some ⟨go13, 0, none⟩) x5_1.length co13)) (by (with_reducible repeat (first | apply Kd.R_alloc | apply Kd.R_drewN | apply Kd.R_drew)); exact HO_16.out) (Kd.R_typed HO_5.out) (by decide) hg); have n2_ := Q9a.mk (blk_grown (g := gb139) (o := .cells #[.int .i64 ((rd_T87 t131 x18_1).f0), .int .i64 ((rd_T87 t131 x18_1).f1)] 87 (0, 0)) (by (with_reducible repeat (first | refine kN ?_ _ | refine kD ?_ | refine kA ?_ _)); exact BK139.out) hg (Kd.R_ne HO_5.out BK139.out (by decide))); have n3_ := Q9a.mk ((by rw [hw]; exact bS (HB.out) GB13.out : Below w.heap.size w w19)); clear HO_5; clear HO_16; clear BK139; clear HB; have HO_5 := n0_; have HO_16 := n1_; have BK139 := n2_; have HB := n3_; clear n0_ n1_ n2_ n3_; clear hg hw hp_))
         go_roundg k1
         case measure => have := HK1.out; omega
         case rel => exact ⟨(y140), (wrap64 (x18_1 + 1)), (by first | rfl | (simp; done) | (simp [*]; done)), H', ⟨by have := HK1.out; omega⟩, ⟨by (with_reducible repeat (first | apply Kd.R_alloc | apply Kd.R_drewN | apply Kd.R_drew)); exact HO_5.out⟩, ⟨by (with_reducible repeat (first | apply Kd.R_alloc | apply Kd.R_drewN | apply Kd.R_drew)); exact Kd.R_mono HO_16.out (fun _ hk => trivial)⟩, ⟨by repeat (first | (with_reducible first | exact HB.out | apply bA | apply bN | apply bD | refine bS ?_ GE139.out) | exact HB.out)⟩⟩
        ·rw [if_neg c12] at H
         exact absurd H (by simp)
       ·rw [if_neg c11] at H
        exact absurd H (by simp)
      ·rw [if_neg c10] at H
       exact absurd H (by simp)
     ·rw [if_neg c9] at H
      have c9b0 : decide (x18_1 < (t131.length : Int)) = false := decide_eq_false c9
      clear c9
      obtain rfl := Option.some.inj H
      go_wp2
      go_ret
      exact ⟨_, by first | rfl | (simp [eN, eS] <;> rfl) | (simp [*, eN, eS] <;> rfl), by (with_reducible repeat (first | apply Kd.R_alloc | apply Kd.R_drewN | apply Kd.R_drew)); exact HO_5.out, by repeat (first | (with_reducible first | exact HB.out | apply bA | apply bN | apply bD) | exact HB.out)⟩
  ·rw [if_neg c4] at H
   exact absurd H (by simp)
 ·rw [if_neg c3] at H
  exact absurd H (by simp)
end
end Go.Proofs.Ytbohbfggmnjpdaa.P
end
-- GmOrder
section
namespace Go.Proofs.Ytbohbfggmnjpdaa.Hand
open Go.RowKit Go.Proofs.YtbohbfggmnjpdaaW.PrintWords
def field_GF_Order.f (a0 : GFv) : Option Int := some (a0.q : Int)
theorem field_GF_Order.calls (b_a0 : Nat) (a0 : GFv) (r : Int) (w : World) (hg0 : GFok w b_a0 a0) (h : field_GF_Order.f a0 = some r) :
  Calls Try.prog 41 #[.pointer (some ⟨b_a0, 0, none⟩)] w fun e w' => e = .returned (.int .i64 r) ∧ Below w.heap.size w w' := by
 obtain rfl := Option.some.inj h
 exact (GS.field_GF_Order.calls b_a0 _ _ _ _ _ _ _ _ _ _ w w hg0.isS (Below.refl _ _) rfl).mono fun e w' h => ⟨h.1, h.2.2.1⟩
end Go.Proofs.Ytbohbfggmnjpdaa.Hand
end
-- Pb4
section
namespace Go.Proofs.Ytbohbfggmnjpdaa.P
noncomputable section
open Go.RowKit Go.Proofs.Ytbohbfggmnjpdaa.Hand Go.Proofs.YtbohbfggmnjpdaaW.PrintWords Go.Proofs.YtbohbfggmnjpdaaW.PrintLast Go.Proofs.YtbohbfggmnjpdaaW.PrintMore
set_option linter.unusedVariables false
set_option linter.unusedSimpArgs false
mutual
def dlog_Order.j0 : Nat → GFv → Int → Bool → Option (Int × List Int × Int)
 | 0, _, _, _ => none
 | k + 1, x0, x1, x18 => if x18 = true then (some (0, ([] : List Int), 7)) else ((field_GF_Order.f x0).bind fun t157 => ((dlog_primes.f k (wrap64 (t157 - 1))).bind fun t158 => (dlog_Order.l0 k x0 x1 (wrap64 (t157 - 1)) t158 (t158.length : Int) 0)))
def dlog_Order.l0 : Nat → GFv → Int → Int → List Int → Int → Int → Option (Int × List Int × Int)
 | 0, _, _, _, _, _, _ => none
 | k + 1, x0, x1, x6, x24, x25, x26 => if x26 < x25 then (if 0 ≤ x26 then (if x26 < (x24.length : Int) then (dlog_Order.l1 k x0 x1 x6 (rd x24 x26) x24 x25 x26) else (none)) else (none)) else ((dlog_primes.f k x6).bind fun t161 => (some (x6, t161, 0)))
def dlog_Order.l1 : Nat → GFv → Int → Int → Int → List Int → Int → Int → Option (Int × List Int × Int)
 | 0, _, _, _, _, _, _, _ => none
 | k + 1, x0, x1, x6, x8, x24, x25, x26 => if x8 = 0 then (none) else (if (Int.tmod x6 x8) = 0 then ((field_GF_Pow.f x0 x1 (wrap64 (Int.tdiv x6 x8))).bind fun bt165 => (if bt165.1 = 1 then (dlog_Order.l1 k x0 x1 (wrap64 (Int.tdiv x6 x8)) x8 x24 x25 x26) else (dlog_Order.l0 k x0 x1 x6 x24 x25 (wrap64 (x26 + 1))))) else (dlog_Order.l0 k x0 x1 x6 x24 x25 (wrap64 (x26 + 1))))
end
def dlog_Order.f (k : Nat) (a0 : GFv) (a1 : Int) : Option (Int × List Int × Int) := (field_GF_Is.f a0 a1).bind fun t156 => (if t156 = true then (dlog_Order.j0 k a0 a1 (a1 == 0)) else (dlog_Order.j0 k a0 a1 true))
set_option maxHeartbeats 8000000 in
set_option maxRecDepth 100000 in
theorem dlog_Order.calls (k : Nat) (b_a0 : Nat) (a0 : GFv) (a1 : Int) (r1 : Int) (r2 : List Int) (r3 : Int) (w : World) (hg0 : GFok w b_a0 a0) (h : dlog_Order.f k a0 a1 = some (r1, r2, r3)) :
  Calls Try.prog 21 #[.pointer (some ⟨b_a0, 0, none⟩), .int .i64 a1] w fun e w' => ∃ v1_ : Value, e = .returned (.tuple #[.agg #[.int .i64 r1, v1_], .int .i64 r3]) ∧ Kd.R (Kd.int .i64) 3 w' w.heap.size (fun _ => True) v1_ r2 ∧ Below w.heap.size w w' := by
 have hu26 := Try.underlying26
 have HG_a0 := Q9a.mk hg0
 clear hg0
 have HB := Q9a.mk (Below.refl w.heap.size w)
 have H : ((field_GF_Is.f a0 a1).bind fun t156 => (if t156 = true then (dlog_Order.j0 k a0 a1 (a1 == 0)) else (dlog_Order.j0 k a0 a1 true))) = some (r1, r2, r3) := h
 clear h
 have HC3 := Q9a.mk H
 clear H
 go_enter Try.func21, Try.ntmps21
 go_upto_region 1 with (first | ((with_reducible refine gate_dst (N := 4) rfl ?_); refine box_event ?hg (N := 4) ?hd (cs := #[.int .i64 0, .slice none 0 0]) (t := 26) ?hr ?_; (case hd => rfl); (case hg => rfl); (case hr => first | (go_simp; done) | (go_simp; rfl)); intro gb155 hg w4 hbox hb; have n0_ := Q9a.mk (bP (by repeat (first | (with_reducible first | exact HB.out | apply bA | apply bN | apply bD) | exact HB.out)) hb); have n1_ := Q9a.mk (hbox); have n2_ := Q9a.mk ((by rw [hg]; exact (bZ (by repeat (first | (with_reducible first | exact HB.out | apply bA | apply bN | apply bD) | exact HB.out))) : w.heap.size ≤ gb155)); have n3_ := Q9a.mk ((by rw [hg]; exact (bZ (by repeat (first | (with_reducible first | exact HB.out | apply bA | apply bN | apply bD) | exact HB.out))) : w.heap.size ≤ gb155)); clear HB; have HB := n0_; have BK155 := n1_; have GW155 := n2_; have GE155 := n3_; clear n0_ n1_ n2_ n3_; clear hb hbox hg))
 (try simp only [Act.put, sz1, sz2, sz3])
 go_cut [18] (fun v18 wc => ∃ (kq : Nat) (x18_2 : Bool), v18 = .bool x18_2 ∧ Q9a (dlog_Order.j0 kq a0 a1 x18_2 = some (r1, r2, r3)) ∧ Q9a (kq ≤ k) ∧ Q9a (wc.heap[gb155]? = some (.cells #[.int .i64 0, (.slice none 0 0)] 26 (0, 0))) ∧ Q9a (Below w.heap.size w wc))
 case first =>
  have H := HC3.out
  clear HC3
  replace H := Option.bind_eq_some_iff.mp H
  obtain ⟨t156, A50, H⟩ := H
  replace H : (if t156 = true then (dlog_Order.j0 k a0 a1 (a1 == 0)) else (dlog_Order.j0 k a0 a1 true)) = some (r1, r2, r3) := H
  have A5 := Q9a.mk A50
  clear A50
  by_cases c6 : t156 = true
  ·subst c6
   have H1 : (dlog_Order.j0 k a0 a1 (a1 == 0)) = some (r1, r2, r3) := by rw [if_pos rfl] at H; exact H
   clear H
   have H := H1
   clear H1
   have H' := Q9a.mk H
   clear H
   go_wp2_with (first | ((with_reducible refine gate_callee (f := 40) rfl ?_); refine goesL_ (some 13) rfl rfl Try.func40 (by kernel_rfl) rfl #[.pointer (some ⟨b_a0, 0, none⟩), .int .i64 a1] rfl (by (try simp only [List.map_toArray, List.map_cons, List.map_nil]); first | done | rfl | (simp only [List.length_drop, List.length_take]; rfl)) ?_; (with_reducible refine (field_GF_Is.calls b_a0 a0 a1 true _ ?side1 A5.out).mono ?_); (case side1 => exact GFok.belowT HG_a0.out (by repeat (first | (with_reducible first | exact HB.out | apply bA | apply bN | apply bD | refine bS ?_ GE155.out) | exact HB.out))); rintro e w7 ⟨rfl, hb⟩; refine ⟨_, rfl, ?_⟩; have n0_ := Q9a.mk (kB (g := gb155) (o := .cells #[.int .i64 0, .slice none 0 0] 26 (0, 0)) (by (with_reducible repeat (first | refine kN ?_ _ | refine kD ?_ | refine kA ?_ _)); exact BK155.out) hb); have n1_ := Q9a.mk (bP (by repeat (first | (with_reducible first | exact HB.out | apply bA | apply bN | apply bD | refine bS ?_ GE155.out) | exact HB.out)) hb); clear BK155; clear HB; have BK155 := n0_; have HB := n1_; clear n0_ n1_; (try clear hb); (try clear hb2); (try clear hk); (try clear hi)))
   go_meet
   case rel => exact ⟨_, ((a1 == 0)), (by first | rfl | (simp; done) | (simp [*]; done)), H', ⟨by first | omega | exact Nat.le_refl _⟩, ⟨by (with_reducible repeat (first | refine kN ?_ _ | refine kD ?_ | refine kA ?_ _)); exact BK155.out⟩, ⟨by repeat (first | (with_reducible first | exact HB.out | apply bA | apply bN | apply bD | refine bS ?_ GE155.out) | exact HB.out)⟩⟩
  ·replace c6 := Bool.eq_false_iff.mpr c6
   subst c6
   have H1 : (dlog_Order.j0 k a0 a1 true) = some (r1, r2, r3) := by rw [if_neg (show ¬ (false = true) by decide)] at H; exact H
   clear H
   have H := H1
   clear H1
   have H' := Q9a.mk H
   clear H
   go_wp2_with (first | ((with_reducible refine gate_callee (f := 40) rfl ?_); refine goesL_ (some 13) rfl rfl Try.func40 (by kernel_rfl) rfl #[.pointer (some ⟨b_a0, 0, none⟩), .int .i64 a1] rfl (by (try simp only [List.map_toArray, List.map_cons, List.map_nil]); first | done | rfl | (simp only [List.length_drop, List.length_take]; rfl)) ?_; (with_reducible refine (field_GF_Is.calls b_a0 a0 a1 false _ ?side1 A5.out).mono ?_); (case side1 => exact GFok.belowT HG_a0.out (by repeat (first | (with_reducible first | exact HB.out | apply bA | apply bN | apply bD | refine bS ?_ GE155.out) | exact HB.out))); rintro e w8 ⟨rfl, hb⟩; refine ⟨_, rfl, ?_⟩; have n0_ := Q9a.mk (kB (g := gb155) (o := .cells #[.int .i64 0, .slice none 0 0] 26 (0, 0)) (by (with_reducible repeat (first | refine kN ?_ _ | refine kD ?_ | refine kA ?_ _)); exact BK155.out) hb); have n1_ := Q9a.mk (bP (by repeat (first | (with_reducible first | exact HB.out | apply bA | apply bN | apply bD | refine bS ?_ GE155.out) | exact HB.out)) hb); clear BK155; clear HB; have BK155 := n0_; have HB := n1_; clear n0_ n1_; (try clear hb); (try clear hb2); (try clear hk); (try clear hi)))
   go_meet
   case rel => exact ⟨_, (true), (by first | rfl | (simp; done) | (simp [*]; done)), H', ⟨by first | omega | exact Nat.le_refl _⟩, ⟨by (with_reducible repeat (first | refine kN ?_ _ | refine kD ?_ | refine kA ?_ _)); exact BK155.out⟩, ⟨by repeat (first | (with_reducible first | exact HB.out | apply bA | apply bN | apply bD | refine bS ?_ GE155.out) | exact HB.out)⟩⟩
 case rest =>
  clear HC3
  try clear c2
  try clear p2
  try clear c4
  try clear c6
  obtain ⟨kq, x18_2, rfl, HA, HJ2, BK155, HB⟩ := hcut
  cases kq with
  | zero => exact absurd HA.out (by simp [dlog_Order.j0])
  | succ kj2 =>
   have H := HA.out
   clear HA
   simp only [dlog_Order.j0] at H
   by_cases c9 : x18_2 = true
   ·subst c9
    have H1 : (some (0, ([] : List Int), 7)) = some (r1, r2, r3) := by rw [if_pos rfl] at H; exact H
    clear H
    have H := H1
    clear H1
    simp only [Option.some.injEq, Prod.mk.injEq] at H
    obtain ⟨rfl, rfl, rfl⟩ := H
    have hcz10_0 : wc.cell? ⟨gb155, 0, none⟩ = some (.int .i64 0) := (kC BK155.out 0).trans rfl
    have hcz10_1 : wc.cell? ⟨gb155, 1, none⟩ = some (.slice none 0 0) := (kC BK155.out 1).trans rfl
    have hfz10_0 := kF BK155.out 0
    have hfz10_1 := kF BK155.out 1
    go_wp2
    refine bodyPost_ret (results_ct rfl _ _ gb155 26 #[.int .i64 0, .slice none 0 0] (0, 0) _ rfl (by (with_reducible repeat (first | refine kN ?_ _ | refine kD ?_ | refine kA ?_ _)); refine blk_put (cs := #[.int .i64 0, .slice none 0 0]) ?_ 1 _ rfl; (with_reducible repeat (first | refine kN ?_ _ | refine kD ?_ | refine kA ?_ _)); refine blk_put (cs := #[.int .i64 0, .slice none 0 0]) ?_ 0 _ rfl; (with_reducible repeat (first | refine kN ?_ _ | refine kD ?_ | refine kA ?_ _)); exact BK155.out) Try.underlying26 rfl (by kernel_rfl)) rfl ?_
    exact ⟨_, by first | rfl | (simp [eN, eS] <;> rfl) | (simp [*, eN, eS] <;> rfl), by first | exact Kd.R_nil _ _ _ _ _ | exact Kd.N_nil _ _ _ _ _ | exact Kd.V_nil _ _ _ _ _ | exact Kd.Q_nil _ _ _ _ _ | exact Kd.S_nil _ _ _ _ _, by repeat (first | (with_reducible first | exact HB.out | apply bA | apply bN | apply bD | refine bS ?_ GE155.out) | exact HB.out)⟩
   ·replace c9 := Bool.eq_false_iff.mpr c9
    subst c9
    have H1 : ((field_GF_Order.f a0).bind fun t157 => ((dlog_primes.f kj2 (wrap64 (t157 - 1))).bind fun t158 => (dlog_Order.l0 kj2 a0 a1 (wrap64 (t157 - 1)) t158 (t158.length : Int) 0))) = some (r1, r2, r3) := by rw [if_neg (show ¬ (false = true) by decide)] at H; exact H
    clear H
    have H := H1
    clear H1
    replace H := Option.bind_eq_some_iff.mp H
    obtain ⟨t157, A110, H⟩ := H
    replace H : ((dlog_primes.f kj2 (wrap64 (t157 - 1))).bind fun t158 => (dlog_Order.l0 kj2 a0 a1 (wrap64 (t157 - 1)) t158 (t158.length : Int) 0)) = some (r1, r2, r3) := H
    have A11 := Q9a.mk A110
    clear A110
    replace H := Option.bind_eq_some_iff.mp H
    obtain ⟨t158, A120, H⟩ := H
    replace H : (dlog_Order.l0 kj2 a0 a1 (wrap64 (t157 - 1)) t158 (t158.length : Int) 0) = some (r1, r2, r3) := H
    have A12 := Q9a.mk A120
    clear A120
    have H' := Q9a.mk H
    clear H
    go_wp2_with (first | ((with_reducible refine gate_callee (f := 41) rfl ?_); refine goesL_ (some 21) rfl rfl Try.func41 (by kernel_rfl) rfl #[.pointer (some ⟨b_a0, 0, none⟩)] rfl (by (try simp only [List.map_toArray, List.map_cons, List.map_nil]); first | done | rfl | (simp only [List.length_drop, List.length_take]; rfl)) ?_; (with_reducible refine (field_GF_Order.calls b_a0 a0 t157 _ ?side1 A11.out).mono ?_); (case side1 => exact GFok.belowT HG_a0.out (by repeat (first | (with_reducible first | exact HB.out | apply bA | apply bN | apply bD | refine bS ?_ GE155.out) | exact HB.out))); rintro e w13 ⟨rfl, hb⟩; refine ⟨_, rfl, ?_⟩; have n0_ := Q9a.mk (kB (g := gb155) (o := .cells #[.int .i64 0, .slice none 0 0] 26 (0, 0)) (by (with_reducible repeat (first | refine kN ?_ _ | refine kD ?_ | refine kA ?_ _)); exact BK155.out) hb); have n1_ := Q9a.mk (bP (by repeat (first | (with_reducible first | exact HB.out | apply bA | apply bN | apply bD | refine bS ?_ GE155.out) | exact HB.out)) hb); clear BK155; clear HB; have BK155 := n0_; have HB := n1_; clear n0_ n1_; (try clear hb); (try clear hb2); (try clear hk); (try clear hi)) | ((with_reducible refine gate_callee (f := 43) rfl ?_); refine goesL_ (some 24) rfl rfl Try.func43 (by kernel_rfl) rfl #[.int .i64 (wrap64 (t157 - 1))] rfl (by (try simp only [List.map_toArray, List.map_cons, List.map_nil]); first | done | rfl | (simp only [List.length_drop, List.length_take]; rfl)) ?_; (with_reducible refine (dlog_primes.calls kj2 (wrap64 (t157 - 1)) t158 _ A12.out).mono ?_); rintro e w14 ⟨v159, rfl, ho0, hb⟩; refine ⟨_, rfl, ?_⟩; have n0_ := Q9a.mk (Kd.R_lower ho0 (bZ (by repeat (first | (with_reducible first | exact HB.out | apply bA | apply bN | apply bD | refine bS ?_ GE155.out) | exact HB.out)))); have n1_ := Q9a.mk (kB (g := gb155) (o := .cells #[.int .i64 0, .slice none 0 0] 26 (0, 0)) (by (with_reducible repeat (first | refine kN ?_ _ | refine kD ?_ | refine kA ?_ _)); exact BK155.out) hb); have n2_ := Q9a.mk (bP (by repeat (first | (with_reducible first | exact HB.out | apply bA | apply bN | apply bD | refine bS ?_ GE155.out) | exact HB.out)) hb); clear BK155; clear HB; have HO160 := n0_; have BK155 := n1_; have HB := n2_; clear n0_ n1_ n2_; (try clear hb); (try clear hb2); (try clear hk); (try clear hi); (try clear ho0); obtain ⟨Ao15, co15, eo15⟩ := Kd.R_slice HO160.out; subst eo15))
    go_loopg [6, 26] kj2 (fun kq v6 v26 w' => ∃ (x6_2 : Int) (x26_2 : Int), v6 = .int .i64 x6_2 ∧ v26 = .int .i64 x26_2 ∧ Q9a (dlog_Order.l0 kq a0 a1 x6_2 t158 (t158.length : Int) x26_2 = some (r1, r2, r3)) ∧ Q9a (kq ≤ kj2) ∧ Q9a (Kd.R (Kd.int .i64) 3 w' w.heap.size (fun _ => True) (.slice Ao15 t158.length co15) t158) ∧ Q9a (w'.heap[gb155]? = some (.cells #[.int .i64 0, (.slice none 0 0)] 26 (0, 0))) ∧ Q9a (Below w.heap.size w w'))
    case atStart => exact ⟨(wrap64 (t157 - 1)), (0), (by first | rfl | (simp; done) | (simp [*]; done)), (by first | rfl | (simp; done) | (simp [*]; done)), H', ⟨Nat.le_refl _⟩, ⟨by (with_reducible repeat (first | apply Kd.R_alloc | apply Kd.R_drewN | apply Kd.R_drew)); exact HO160.out⟩, ⟨by (with_reducible repeat (first | refine kN ?_ _ | refine kD ?_ | refine kA ?_ _)); exact BK155.out⟩, ⟨by repeat (first | (with_reducible first | exact HB.out | apply bA | apply bN | apply bD | refine bS ?_ GE155.out) | exact HB.out)⟩⟩
    case round =>
     clear H'
     try clear c2
     try clear p2
     try clear c4
     try clear c6
     try clear p6
     try clear c9
     try clear hcz10_0
     try clear hcz10_1
     try clear hfz10_0
     try clear hfz10_1
     try clear p2
     obtain ⟨x6_2, x26_2, rfl, rfl, HA, HK2, HO_24, BK155, HB⟩ := hrel
     cases gk with
     | zero => exact absurd HA.out (by simp [dlog_Order.l0])
     | succ k2 =>
      have H := HA.out
      clear HA
      simp only [dlog_Order.l0] at H
      by_cases c16 : x26_2 < (t158.length : Int)
      ·rw [if_pos c16] at H
       have c16b0 : decide (x26_2 < (t158.length : Int)) = true := decide_eq_true c16
       clear c16
       by_cases c17 : 0 ≤ x26_2
       ·rw [if_pos c17] at H
        have c17b0 : decide (0 ≤ x26_2) = true := decide_eq_true c17
        clear c17
        by_cases c18 : x26_2 < (t158.length : Int)
        ·rw [if_pos c18] at H
         have c18b0 : decide (x26_2 < (t158.length : Int)) = true := decide_eq_true c18
         clear c18
         have H' := Q9a.mk H
         clear H
         have p164 : 0 ≤ (x26_2 : Int) := of_decide_eq_true (by first | (with_reducible assumption) | assumption)
         have q164 : x26_2 < (t158.length : Int) := of_decide_eq_true (by first | (with_reducible assumption) | assumption)
         obtain ⟨ad164, e164, hx164_0⟩ := Kd.at_int (Kd.R_reads' HO_24.out).2.2 x26_2 p164 q164
         cases e164
         replace p164 := eq_true p164
         replace q164 := eq_true q164
         go_wp2
         go_loopg [6] k2 (fun kq v6 w' => ∃ (x6_3 : Int), v6 = .int .i64 x6_3 ∧ Q9a (dlog_Order.l1 kq a0 a1 x6_3 (rd t158 x26_2) t158 (t158.length : Int) x26_2 = some (r1, r2, r3)) ∧ Q9a (kq ≤ k2) ∧ Q9a (Kd.R (Kd.int .i64) 3 w' w.heap.size (fun _ => True) (.slice (some ad164) t158.length co15) t158) ∧ Q9a (w'.heap[gb155]? = some (.cells #[.int .i64 0, (.slice none 0 0)] 26 (0, 0))) ∧ Q9a (Below w.heap.size w w'))
         case atStart => exact ⟨(x6_2), (by first | rfl | (simp; done) | (simp [*]; done)), H', ⟨Nat.le_refl _⟩, ⟨by (with_reducible repeat (first | apply Kd.R_alloc | apply Kd.R_drewN | apply Kd.R_drew)); exact HO_24.out⟩, ⟨by (with_reducible repeat (first | refine kN ?_ _ | refine kD ?_ | refine kA ?_ _)); exact BK155.out⟩, ⟨by repeat (first | (with_reducible first | exact HB.out | apply bA | apply bN | apply bD | refine bS ?_ GE155.out) | exact HB.out)⟩⟩
         case round =>
          clear H'
          try clear c1
          try clear p1
          try clear q1
          try clear hx1
          try clear c2
          try clear p2
          try clear c4
          try clear c6
          try clear p6
          try clear c9
          try clear c16
          try clear c16b0
          try clear p16
          try clear q16
          try clear hx16
          try clear c17
          try clear c17b0
          try clear c18
          try clear c18b0
          try clear hcz10_0
          try clear hcz10_1
          try clear hfz10_0
          try clear hfz10_1
          try clear hx164_0
          try clear p164
          try clear p2
          try clear p6
          try clear q164
          obtain ⟨x6_3, rfl, HA, HK3, HO_24, BK155, HB⟩ := hrel
          cases gk with
          | zero => exact absurd HA.out (by simp [dlog_Order.l1])
          | succ k3 =>
           have H := HA.out
           clear HA
           simp only [dlog_Order.l1] at H
           by_cases c19 : (rd t158 x26_2) = 0
           ·rw [if_pos c19] at H
            exact absurd H (by simp)
           ·rw [if_neg c19] at H
            have c19b0 : ((rd t158 x26_2) == 0) = false := beq_eq_false_iff_ne.mpr c19
            have c19b1 : ((rd t158 x26_2) != 0) = true := bne_iff_ne.mpr c19
            by_cases c20 : (Int.tmod x6_3 (rd t158 x26_2)) = 0
            ·rw [if_pos c20] at H
             have c20b0 : ((Int.tmod x6_3 (rd t158 x26_2)) == 0) = true := beq_iff_eq.mpr c20
             have c20b1 : ((Int.tmod x6_3 (rd t158 x26_2)) != 0) = false := bne_eq_false_iff_eq.mpr c20
             clear c20
             replace H := Option.bind_eq_some_iff.mp H
             obtain ⟨⟨t165, t166⟩, A210, H⟩ := H
             replace H : (if t165 = 1 then (dlog_Order.l1 k3 a0 a1 (wrap64 (Int.tdiv x6_3 (rd t158 x26_2))) (rd t158 x26_2) t158 (t158.length : Int) x26_2) else (dlog_Order.l0 k3 a0 a1 x6_3 t158 (t158.length : Int) (wrap64 (x26_2 + 1)))) = some (r1, r2, r3) := H
             have A21 := Q9a.mk A210
             clear A210
             by_cases c22 : t165 = 1
             ·rw [if_pos c22] at H
              have c22b0 : (t165 == 1) = true := beq_iff_eq.mpr c22
              have c22b1 : (t165 != 1) = false := bne_eq_false_iff_eq.mpr c22
              clear c22
              have H' := Q9a.mk H
              clear H
              go_wp2_with (first | ((with_reducible refine gate_callee (f := 16) rfl ?_); refine goesL_ (some 40) rfl rfl Try.func16 (by kernel_rfl) rfl #[.pointer (some ⟨b_a0, 0, none⟩), .int .i64 a1, .int .i64 (wrap64 (Int.tdiv x6_3 (rd t158 x26_2)))] rfl (by (try simp only [List.map_toArray, List.map_cons, List.map_nil]); first | done | rfl | (simp only [List.length_drop, List.length_take]; rfl)) ?_; (with_reducible refine (field_GF_Pow.calls b_a0 a0 a1 (wrap64 (Int.tdiv x6_3 (rd t158 x26_2))) t165 t166 _ ?side1 A21.out).mono ?_); (case side1 => exact GFok.belowT HG_a0.out (by repeat (first | (with_reducible first | exact HB.out | apply bA | apply bN | apply bD | refine bS ?_ GE155.out) | exact HB.out))); rintro e w23 ⟨rfl, hb⟩; refine ⟨_, rfl, ?_⟩; have n0_ := Q9a.mk (Kd.R_below (by (with_reducible repeat (first | apply Kd.R_alloc | apply Kd.R_drewN | apply Kd.R_drew)); exact HO_24.out) hb); have n1_ := Q9a.mk (kB (g := gb155) (o := .cells #[.int .i64 0, .slice none 0 0] 26 (0, 0)) (by (with_reducible repeat (first | refine kN ?_ _ | refine kD ?_ | refine kA ?_ _)); exact BK155.out) hb); have n2_ := Q9a.mk (bP (by repeat (first | (with_reducible first | exact HB.out | apply bA | apply bN | apply bD | refine bS ?_ GE155.out) | exact HB.out)) hb); clear HO_24; clear BK155; clear HB; have HO_24 := n0_; have BK155 := n1_; have HB := n2_; clear n0_ n1_ n2_; (try clear hb); (try clear hb2); (try clear hk); (try clear hi)))
              go_roundg k3
              case measure => have := HJ2.out; have := HK2.out; have := HK3.out; omega
              case rel => exact ⟨(wrap64 (Int.tdiv x6_3 (rd t158 x26_2))), (by first | rfl | (simp; done) | (simp [*]; done)), H', ⟨by have := HJ2.out; have := HK2.out; have := HK3.out; omega⟩, ⟨by (with_reducible repeat (first | apply Kd.R_alloc | apply Kd.R_drewN | apply Kd.R_drew)); exact HO_24.out⟩, ⟨by (with_reducible repeat (first | refine kN ?_ _ | refine kD ?_ | refine kA ?_ _)); exact BK155.out⟩, ⟨by repeat (first | (with_reducible first | exact HB.out | apply bA | apply bN | apply bD | refine bS ?_ GE155.out) | exact HB.out)⟩⟩
             ·rw [if_neg c22] at H
              have c22b0 : (t165 == 1) = false := beq_eq_false_iff_ne.mpr c22
              have c22b1 : (t165 != 1) = true := bne_iff_ne.mpr c22
              have H' := Q9a.mk H
              clear H
              go_wp2_with (first | ((with_reducible refine gate_callee (f := 16) rfl ?_); refine goesL_ (some 40) rfl rfl Try.func16 (by kernel_rfl) rfl #[.pointer (some ⟨b_a0, 0, none⟩), .int .i64 a1, .int .i64 (wrap64 (Int.tdiv x6_3 (rd t158 x26_2)))] rfl (by (try simp only [List.map_toArray, List.map_cons, List.map_nil]); first | done | rfl | (simp only [List.length_drop, List.length_take]; rfl)) ?_; (with_reducible refine (field_GF_Pow.calls b_a0 a0 a1 (wrap64 (Int.tdiv x6_3 (rd t158 x26_2))) t165 t166 _ ?side1 A21.out).mono ?_); (case side1 => exact GFok.belowT HG_a0.out (by repeat (first | (with_reducible first | exact HB.out | apply bA | apply bN | apply bD | refine bS ?_ GE155.out) | exact HB.out))); rintro e w24 ⟨rfl, hb⟩; refine ⟨_, rfl, ?_⟩; have n0_ := Q9a.mk (Kd.R_below (by (with_reducible repeat (first | apply Kd.R_alloc | apply Kd.R_drewN | apply Kd.R_drew)); exact HO_24.out) hb); have n1_ := Q9a.mk (kB (g := gb155) (o := .cells #[.int .i64 0, .slice none 0 0] 26 (0, 0)) (by (with_reducible repeat (first | refine kN ?_ _ | refine kD ?_ | refine kA ?_ _)); exact BK155.out) hb); have n2_ := Q9a.mk (bP (by repeat (first | (with_reducible first | exact HB.out | apply bA | apply bN | apply bD | refine bS ?_ GE155.out) | exact HB.out)) hb); clear HO_24; clear BK155; clear HB; have HO_24 := n0_; have BK155 := n1_; have HB := n2_; clear n0_ n1_ n2_; (try clear hb); (try clear hb2); (try clear hk); (try clear hi)))
              go_roundg k3
              case measure => have := HJ2.out; have := HK2.out; have := HK3.out; omega
              case rel => exact ⟨(x6_3), (wrap64 (x26_2 + 1)), (by first | rfl | (simp; done) | (simp [*]; done)), (by first | rfl | (simp; done) | (simp [*]; done)), H', ⟨by have := HJ2.out; have := HK2.out; have := HK3.out; omega⟩, ⟨by (with_reducible repeat (first | apply Kd.R_alloc | apply Kd.R_drewN | apply Kd.R_drew)); exact HO_24.out⟩, ⟨by (with_reducible repeat (first | refine kN ?_ _ | refine kD ?_ | refine kA ?_ _)); exact BK155.out⟩, ⟨by repeat (first | (with_reducible first | exact HB.out | apply bA | apply bN | apply bD | refine bS ?_ GE155.out) | exact HB.out)⟩⟩
            ·rw [if_neg c20] at H
             have c20b0 : ((Int.tmod x6_3 (rd t158 x26_2)) == 0) = false := beq_eq_false_iff_ne.mpr c20
             have c20b1 : ((Int.tmod x6_3 (rd t158 x26_2)) != 0) = true := bne_iff_ne.mpr c20
             have H' := Q9a.mk H
             clear H
             go_wp2
             go_roundg k3
             case measure => have := HJ2.out; have := HK2.out; have := HK3.out; omega
             case rel => exact ⟨(x6_3), (wrap64 (x26_2 + 1)), (by first | rfl | (simp; done) | (simp [*]; done)), (by first | rfl | (simp; done) | (simp [*]; done)), H', ⟨by have := HJ2.out; have := HK2.out; have := HK3.out; omega⟩, ⟨by (with_reducible repeat (first | apply Kd.R_alloc | apply Kd.R_drewN | apply Kd.R_drew)); exact HO_24.out⟩, ⟨by (with_reducible repeat (first | refine kN ?_ _ | refine kD ?_ | refine kA ?_ _)); exact BK155.out⟩, ⟨by repeat (first | (with_reducible first | exact HB.out | apply bA | apply bN | apply bD | refine bS ?_ GE155.out) | exact HB.out)⟩⟩
        ·rw [if_neg c18] at H
         exact absurd H (by simp)
       ·rw [if_neg c17] at H
        exact absurd H (by simp)
      ·rw [if_neg c16] at H
       have c16b0 : decide (x26_2 < (t158.length : Int)) = false := decide_eq_false c16
       clear c16
       replace H := Option.bind_eq_some_iff.mp H
       obtain ⟨t161, A250, H⟩ := H
       replace H : (some (x6_2, t161, 0)) = some (r1, r2, r3) := H
       have A25 := Q9a.mk A250
       clear A250
       simp only [Option.some.injEq, Prod.mk.injEq] at H
       obtain ⟨rfl, rfl, rfl⟩ := H
       go_wp2_with (first | ((with_reducible refine gate_callee (f := 43) rfl ?_); refine goesL_ (some 51) rfl rfl Try.func43 (by kernel_rfl) rfl #[.int .i64 x6_2] rfl (by (try simp only [List.map_toArray, List.map_cons, List.map_nil]); first | done | rfl | (simp only [List.length_drop, List.length_take]; rfl)) ?_; (with_reducible refine (dlog_primes.calls k2 x6_2 t161 _ A25.out).mono ?_); rintro e w26 ⟨v162, rfl, ho0, hb⟩; refine ⟨_, rfl, ?_⟩; have n0_ := Q9a.mk (Kd.R_elder' (by (with_reducible repeat (first | apply Kd.R_alloc | apply Kd.R_drewN | apply Kd.R_drew)); exact HO_24.out) (Kd.R_base ho0) hb); have n1_ := Q9a.mk (Kd.R_lower (Kd.R_new' ho0 (Kd.R_lt (by (with_reducible repeat (first | apply Kd.R_alloc | apply Kd.R_drewN | apply Kd.R_drew)); exact HO_24.out))) (bZ (by repeat (first | (with_reducible first | exact HB.out | apply bA | apply bN | apply bD | refine bS ?_ GE155.out) | exact HB.out)))); have n2_ := Q9a.mk (kB (g := gb155) (o := .cells #[.int .i64 0, .slice none 0 0] 26 (0, 0)) (by (with_reducible repeat (first | refine kN ?_ _ | refine kD ?_ | refine kA ?_ _)); exact BK155.out) hb); have n3_ := Q9a.mk (bP (by repeat (first | (with_reducible first | exact HB.out | apply bA | apply bN | apply bD | refine bS ?_ GE155.out) | exact HB.out)) hb); clear HO_24; clear BK155; clear HB; have HO_24 := n0_; have HO163 := n1_; have BK155 := n2_; have HB := n3_; clear n0_ n1_ n2_ n3_; (try clear hb); (try clear hb2); (try clear hk); (try clear hi); (try clear ho0); obtain ⟨Ao27, co27, eo27⟩ := Kd.R_slice HO163.out; subst eo27; have hcz28_0 : w26.cell? ⟨gb155, 0, none⟩ = some (.int .i64 0) := (kC BK155.out 0).trans rfl; have hcz28_1 : w26.cell? ⟨gb155, 1, none⟩ = some (.slice none 0 0) := (kC BK155.out 1).trans rfl; have hfz28_0 := kF BK155.out 0; have hfz28_1 := kF BK155.out 1))
       refine bodyPost_ret (results_ct rfl _ _ gb155 26 #[.int .i64 x6_2, .slice Ao27 t161.length co27] (0, 0) _ rfl (by (with_reducible repeat (first | refine kN ?_ _ | refine kD ?_ | refine kA ?_ _)); refine blk_put (cs := #[.int .i64 x6_2, .slice none 0 0]) ?_ 1 _ rfl; (with_reducible repeat (first | refine kN ?_ _ | refine kD ?_ | refine kA ?_ _)); refine blk_put (cs := #[.int .i64 0, .slice none 0 0]) ?_ 0 _ rfl; (with_reducible repeat (first | refine kN ?_ _ | refine kD ?_ | refine kA ?_ _)); exact BK155.out) Try.underlying26 rfl (by kernel_rfl)) rfl ?_
       exact ⟨_, by first | rfl | (simp [eN, eS] <;> rfl) | (simp [*, eN, eS] <;> rfl), by (with_reducible repeat (first | apply Kd.R_alloc | apply Kd.R_drewN | apply Kd.R_drew)); exact Kd.R_mono (Kd.R_far (p := ⟨gb155, 1, none⟩) (Kd.R_far (p := ⟨gb155, 0, none⟩) (Kd.R_types HO163.out BK155.out (by decide)) (fun _ hk => hk.2) (.int .i64 x6_2)) (fun _ hk => hk.2) (.slice Ao27 t161.length co27)) (fun _ hk => trivial), by repeat (first | (with_reducible first | exact HB.out | apply bA | apply bN | apply bD | refine bS ?_ GE155.out) | exact HB.out)⟩
end
end Go.Proofs.Ytbohbfggmnjpdaa.P
end
