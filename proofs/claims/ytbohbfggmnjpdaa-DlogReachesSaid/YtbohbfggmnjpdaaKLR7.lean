/- What dlogReaches_holds needs: texts Pb4, GmInv, Pa1, D1, put together. -/
import Derived.Test.YtbohbfggmnjpdaaKLR6
set_option linter.unusedVariables false
set_option linter.unusedSimpArgs false
-- Pb4
section
namespace Go.Proofs.Ytbohbfggmnjpdaa.P
noncomputable section
open Go.RowKit Go.Proofs.Ytbohbfggmnjpdaa.Hand Go.Proofs.YtbohbfggmnjpdaaW.PrintWords Go.Proofs.YtbohbfggmnjpdaaW.PrintLast Go.Proofs.YtbohbfggmnjpdaaW.PrintMore
set_option linter.unusedVariables false
set_option linter.unusedSimpArgs false
mutual
def dlog_Order.j0 : Nat → GFv → Int → Bool → Option (Int × List Int × Int)
 | 0, _, _, _ => none
 | k + 1, x0, x1, x18 => if x18 = true then (some (0, ([] : List Int), 7)) else ((field_GF_Order.f x0).bind fun t157 => ((dlog_primes.f k (wrap64 (t157 - 1))).bind fun t158 => (dlog_Order.l0 k x0 x1 (wrap64 (t157 - 1)) t158 (t158.length : Int) 0)))
def dlog_Order.l0 : Nat → GFv → Int → Int → List Int → Int → Int → Option (Int × List Int × Int)
 | 0, _, _, _, _, _, _ => none
 | k + 1, x0, x1, x6, x24, x25, x26 => if x26 < x25 then (if 0 ≤ x26 then (if x26 < (x24.length : Int) then (dlog_Order.l1 k x0 x1 x6 (rd x24 x26) x24 x25 x26) else (none)) else (none)) else ((dlog_primes.f k x6).bind fun t161 => (some (x6, t161, 0)))
def dlog_Order.l1 : Nat → GFv → Int → Int → Int → List Int → Int → Int → Option (Int × List Int × Int)
 | 0, _, _, _, _, _, _, _ => none
 | k + 1, x0, x1, x6, x8, x24, x25, x26 => if x8 = 0 then (none) else (if (Int.tmod x6 x8) = 0 then ((field_GF_Pow.f x0 x1 (wrap64 (Int.tdiv x6 x8))).bind fun bt165 => (if bt165.1 = 1 then (dlog_Order.l1 k x0 x1 (wrap64 (Int.tdiv x6 x8)) x8 x24 x25 x26) else (dlog_Order.l0 k x0 x1 x6 x24 x25 (wrap64 (x26 + 1))))) else (dlog_Order.l0 k x0 x1 x6 x24 x25 (wrap64 (x26 + 1))))
end
def dlog_Order.f (k : Nat) (a0 : GFv) (a1 : Int) : Option (Int × List Int × Int) := (field_GF_Is.f a0 a1).bind fun t156 => (if t156 = true then (dlog_Order.j0 k a0 a1 (a1 == 0)) else (dlog_Order.j0 k a0 a1 true))
set_option maxHeartbeats 8000000 in
set_option maxRecDepth 100000 in
theorem dlog_Order.calls (k : Nat) (b_a0 : Nat) (a0 : GFv) (a1 : Int) (r1 : Int) (r2 : List Int) (r3 : Int) (w : World) (hg0 : GFok w b_a0 a0) (h : dlog_Order.f k a0 a1 = some (r1, r2, r3)) :
  Calls Try.prog 21 #[.pointer (some ⟨b_a0, 0, none⟩), .int .i64 a1] w fun e w' => ∃ v1_ : Value, e = .returned (.tuple #[.agg #[.int .i64 r1, v1_], .int .i64 r3]) ∧ Kd.R (Kd.int .i64) 3 w' w.heap.size (fun _ => True) v1_ r2 ∧ Below w.heap.size w w' := by
 have hu26 := Try.underlying26
 have HG_a0 := Q9a.mk hg0
 clear hg0
 have HB := Q9a.mk (Below.refl w.heap.size w)
 have H : ((field_GF_Is.f a0 a1).bind fun t156 => (if t156 = true then (dlog_Order.j0 k a0 a1 (a1 == 0)) else (dlog_Order.j0 k a0 a1 true))) = some (r1, r2, r3) := h
 clear h
 have HC3 := Q9a.mk H
 clear H
 go_enter Try.func21, Try.ntmps21
 go_upto_region 1 with (first | ((with_reducible refine gate_dst (N := 4) rfl ?_); refine box_event ?hg (N := 4) ?hd (cs := #[.int .i64 0, .slice none 0 0]) (t := 26) ?hr ?_; (case hd => rfl); (case hg => rfl); (case hr => first | (go_simp; done) | (go_simp; rfl)); intro gb155 hg w4 hbox hb; have n0_ := Q9a.mk (bP (by repeat (first | (with_reducible first | exact HB.out | apply bA | apply bN | apply bD) | exact HB.out)) hb); have n1_ := Q9a.mk (hbox); have n2_ := Q9a.mk ((by rw [hg]; exact (bZ (by repeat (first | (with_reducible first | exact HB.out | apply bA | apply bN | apply bD) | exact HB.out))) : w.heap.size ≤ gb155)); have n3_ := Q9a.mk ((by rw [hg]; exact (bZ (by repeat (first | (with_reducible first | exact HB.out | apply bA | apply bN | apply bD) | exact HB.out))) : w.heap.size ≤ gb155)); clear HB; have HB := n0_; have BK155 := n1_; have GW155 := n2_; have GE155 := n3_; clear n0_ n1_ n2_ n3_; clear hb hbox hg))
 (try simp only [Act.put, sz1, sz2, sz3])
 go_cut [18] (fun v18 wc => ∃ (kq : Nat) (x18_2 : Bool), v18 = .bool x18_2 ∧ Q9a (dlog_Order.j0 kq a0 a1 x18_2 = some (r1, r2, r3)) ∧ Q9a (kq ≤ k) ∧ Q9a (wc.heap[gb155]? = some (.cells #[.int .i64 0, (.slice none 0 0)] 26 (0, 0))) ∧ Q9a (Below w.heap.size w wc))
 case first =>
  have H := HC3.out
  clear HC3
  replace H := Option.bind_eq_some_iff.mp H
  obtain ⟨t156, A50, H⟩ := H
  replace H : (if t156 = true then (dlog_Order.j0 k a0 a1 (a1 == 0)) else (dlog_Order.j0 k a0 a1 true)) = some (r1, r2, r3) := H
  have A5 := Q9a.mk A50
  clear A50
  by_cases c6 : t156 = true
  ·subst c6
   have H1 : (dlog_Order.j0 k a0 a1 (a1 == 0)) = some (r1, r2, r3) := by rw [if_pos rfl] at H; exact H
   clear H
   have H := H1
   clear H1
   have H' := Q9a.mk H
   clear H
   go_wp2_with (first | ((with_reducible refine gate_callee (f := 40) rfl ?_); refine goesL_ (some 13) rfl rfl Try.func40 (by kernel_rfl) rfl #[.pointer (some ⟨b_a0, 0, none⟩), .int .i64 a1] rfl (by (try simp only [List.map_toArray, List.map_cons, List.map_nil]); first | done | rfl | (simp only [List.length_drop, List.length_take]; rfl)) ?_; (with_reducible refine (field_GF_Is.calls b_a0 a0 a1 true _ ?side1 A5.out).mono ?_); (case side1 => exact GFok.belowT HG_a0.out (by repeat (first | (with_reducible first | exact HB.out | apply bA | apply bN | apply bD | refine bS ?_ GE155.out) | exact HB.out))); rintro e w7 ⟨rfl, hb⟩; refine ⟨_, rfl, ?_⟩; have n0_ := Q9a.mk (kB (g := gb155) (o := .cells #[.int .i64 0, .slice none 0 0] 26 (0, 0)) (by (with_reducible repeat (first | refine kN ?_ _ | refine kD ?_ | refine kA ?_ _)); exact BK155.out) hb); have n1_ := Q9a.mk (bP (by repeat (first | (with_reducible first | exact HB.out | apply bA | apply bN | apply bD | refine bS ?_ GE155.out) | exact HB.out)) hb); clear BK155; clear HB; have BK155 := n0_; have HB := n1_; clear n0_ n1_; (try clear hb); (try clear hb2); (try clear hk); (try clear hi)))
   go_meet
   case rel => exact ⟨_, ((a1 == 0)), (by first | rfl | (simp; done) | (simp [*]; done)), H', ⟨by first | omega | exact Nat.le_refl _⟩, ⟨by (with_reducible repeat (first | refine kN ?_ _ | refine kD ?_ | refine kA ?_ _)); exact BK155.out⟩, ⟨by repeat (first | (with_reducible first | exact HB.out | apply bA | apply bN | apply bD | refine bS ?_ GE155.out) | exact HB.out)⟩⟩
  ·replace c6 := Bool.eq_false_iff.mpr c6
   subst c6
   have H1 : (dlog_Order.j0 k a0 a1 true) = some (r1, r2, r3) := by rw [if_neg (show ¬ (false = true) by decide)] at H; exact H
   clear H
   have H := H1
   clear H1
   have H' := Q9a.mk H
   clear H
   go_wp2_with (first | ((with_reducible refine gate_callee (f := 40) rfl ?_); refine goesL_ (some 13) rfl rfl Try.func40 (by kernel_rfl) rfl #[.pointer (some ⟨b_a0, 0, none⟩), .int .i64 a1] rfl (by (try simp only [List.map_toArray, List.map_cons, List.map_nil]); first | done | rfl | (simp only [List.length_drop, List.length_take]; rfl)) ?_; (with_reducible refine (field_GF_Is.calls b_a0 a0 a1 false _ ?side1 A5.out).mono ?_); (case side1 => exact GFok.belowT HG_a0.out (by repeat (first | (with_reducible first | exact HB.out | apply bA | apply bN | apply bD | refine bS ?_ GE155.out) | exact HB.out))); rintro e w8 ⟨rfl, hb⟩; refine ⟨_, rfl, ?_⟩; have n0_ := Q9a.mk (kB (g := gb155) (o := .cells #[.int .i64 0, .slice none 0 0] 26 (0, 0)) (by (with_reducible repeat (first | refine kN ?_ _ | refine kD ?_ | refine kA ?_ _)); exact BK155.out) hb); have n1_ := Q9a.mk (bP (by repeat (first | (with_reducible first | exact HB.out | apply bA | apply bN | apply bD | refine bS ?_ GE155.out) | exact HB.out)) hb); clear BK155; clear HB; have BK155 := n0_; have HB := n1_; clear n0_ n1_; (try clear hb); (try clear hb2); (try clear hk); (try clear hi)))
   go_meet
   case rel => exact ⟨_, (true), (by first | rfl | (simp; done) | (simp [*]; done)), H', ⟨by first | omega | exact Nat.le_refl _⟩, ⟨by (with_reducible repeat (first | refine kN ?_ _ | refine kD ?_ | refine kA ?_ _)); exact BK155.out⟩, ⟨by repeat (first | (with_reducible first | exact HB.out | apply bA | apply bN | apply bD | refine bS ?_ GE155.out) | exact HB.out)⟩⟩
 case rest =>
  clear HC3
  try clear c2
  try clear p2
  try clear c4
  try clear c6
  obtain ⟨kq, x18_2, rfl, HA, HJ2, BK155, HB⟩ := hcut
  cases kq with
  | zero => exact absurd HA.out (by simp [dlog_Order.j0])
  | succ kj2 =>
   have H := HA.out
   clear HA
   simp only [dlog_Order.j0] at H
   by_cases c9 : x18_2 = true
   ·subst c9
    have H1 : (some (0, ([] : List Int), 7)) = some (r1, r2, r3) := by rw [if_pos rfl] at H; exact H
    clear H
    have H := H1
    clear H1
    simp only [Option.some.injEq, Prod.mk.injEq] at H
    obtain ⟨rfl, rfl, rfl⟩ := H
    have hcz10_0 : wc.cell? ⟨gb155, 0, none⟩ = some (.int .i64 0) := (kC BK155.out 0).trans rfl
    have hcz10_1 : wc.cell? ⟨gb155, 1, none⟩ = some (.slice none 0 0) := (kC BK155.out 1).trans rfl
    have hfz10_0 := kF BK155.out 0
    have hfz10_1 := kF BK155.out 1
    go_wp2
    refine bodyPost_ret (results_ct rfl _ _ gb155 26 #[.int .i64 0, .slice none 0 0] (0, 0) _ rfl (by (with_reducible repeat (first | refine kN ?_ _ | refine kD ?_ | refine kA ?_ _)); refine blk_put (cs := #[.int .i64 0, .slice none 0 0]) ?_ 1 _ rfl; (with_reducible repeat (first | refine kN ?_ _ | refine kD ?_ | refine kA ?_ _)); refine blk_put (cs := #[.int .i64 0, .slice none 0 0]) ?_ 0 _ rfl; (with_reducible repeat (first | refine kN ?_ _ | refine kD ?_ | refine kA ?_ _)); exact BK155.out) Try.underlying26 rfl (by kernel_rfl)) rfl ?_
    exact ⟨_, by first | rfl | (simp [eN, eS] <;> rfl) | (simp [*, eN, eS] <;> rfl), by first | exact Kd.R_nil _ _ _ _ _ | exact Kd.N_nil _ _ _ _ _ | exact Kd.V_nil _ _ _ _ _ | exact Kd.Q_nil _ _ _ _ _ | exact Kd.S_nil _ _ _ _ _, by repeat (first | (with_reducible first | exact HB.out | apply bA | apply bN | apply bD | refine bS ?_ GE155.out) | exact HB.out)⟩
   ·replace c9 := Bool.eq_false_iff.mpr c9
    subst c9
    have H1 : ((field_GF_Order.f a0).bind fun t157 => ((dlog_primes.f kj2 (wrap64 (t157 - 1))).bind fun t158 => (dlog_Order.l0 kj2 a0 a1 (wrap64 (t157 - 1)) t158 (t158.length : Int) 0))) = some (r1, r2, r3) := by rw [if_neg (show ¬ (false = true) by decide)] at H; exact H
    clear H
    have H := H1
    clear H1
    replace H := Option.bind_eq_some_iff.mp H
    obtain ⟨t157, A110, H⟩ := H
    replace H : ((dlog_primes.f kj2 (wrap64 (t157 - 1))).bind fun t158 => (dlog_Order.l0 kj2 a0 a1 (wrap64 (t157 - 1)) t158 (t158.length : Int) 0)) = some (r1, r2, r3) := H
    have A11 := Q9a.mk A110
    clear A110
    replace H := Option.bind_eq_some_iff.mp H
    obtain ⟨t158, A120, H⟩ := H
    replace H : (dlog_Order.l0 kj2 a0 a1 (wrap64 (t157 - 1)) t158 (t158.length : Int) 0) = some (r1, r2, r3) := H
    have A12 := Q9a.mk A120
    clear A120
    have H' := Q9a.mk H
    clear H
    go_wp2_with (first | ((with_reducible refine gate_callee (f := 41) rfl ?_); refine goesL_ (some 21) rfl rfl Try.func41 (by kernel_rfl) rfl #[.pointer (some ⟨b_a0, 0, none⟩)] rfl (by (try simp only [List.map_toArray, List.map_cons, List.map_nil]); first | done | rfl | (simp only [List.length_drop, List.length_take]; rfl)) ?_; (with_reducible refine (field_GF_Order.calls b_a0 a0 t157 _ ?side1 A11.out).mono ?_); (case side1 => exact GFok.belowT HG_a0.out (by repeat (first | (with_reducible first | exact HB.out | apply bA | apply bN | apply bD | refine bS ?_ GE155.out) | exact HB.out))); rintro e w13 ⟨rfl, hb⟩; refine ⟨_, rfl, ?_⟩; have n0_ := Q9a.mk (kB (g := gb155) (o := .cells #[.int .i64 0, .slice none 0 0] 26 (0, 0)) (by (with_reducible repeat (first | refine kN ?_ _ | refine kD ?_ | refine kA ?_ _)); exact BK155.out) hb); have n1_ := Q9a.mk (bP (by repeat (first | (with_reducible first | exact HB.out | apply bA | apply bN | apply bD | refine bS ?_ GE155.out) | exact HB.out)) hb); clear BK155; clear HB; have BK155 := n0_; have HB := n1_; clear n0_ n1_; (try clear hb); (try clear hb2); (try clear hk); (try clear hi)) | ((with_reducible refine gate_callee (f := 43) rfl ?_); refine goesL_ (some 24) rfl rfl Try.func43 (by kernel_rfl) rfl #[.int .i64 (wrap64 (t157 - 1))] rfl (by (try simp only [List.map_toArray, List.map_cons, List.map_nil]); first | done | rfl | (simp only [List.length_drop, List.length_take]; rfl)) ?_; (with_reducible refine (dlog_primes.calls kj2 (wrap64 (t157 - 1)) t158 _ A12.out).mono ?_); rintro e w14 ⟨v159, rfl, ho0, hb⟩; refine ⟨_, rfl, ?_⟩; have n0_ := Q9a.mk (Kd.R_lower ho0 (bZ (by repeat (first | (with_reducible first | exact HB.out | apply bA | apply bN | apply bD | refine bS ?_ GE155.out) | exact HB.out)))); have n1_ := Q9a.mk (kB (g := gb155) (o := .cells #[.int .i64 0, .slice none 0 0] 26 (0, 0)) (by (with_reducible repeat (first | refine kN ?_ _ | refine kD ?_ | refine kA ?_ _)); exact BK155.out) hb); have n2_ := Q9a.mk (bP (by repeat (first | (with_reducible first | exact HB.out | apply bA | apply bN | apply bD | refine bS ?_ GE155.out) | exact HB.out)) hb); clear BK155; clear HB; have HO160 := n0_; have BK155 := n1_; have HB := n2_; clear n0_ n1_ n2_; (try clear hb); (try clear hb2); (try clear hk); (try clear hi); (try clear ho0); obtain ⟨Ao15, co15, eo15⟩ := Kd.R_slice HO160.out; subst eo15))
    go_loopg [6, 26] kj2 (fun kq v6 v26 w' => ∃ (x6_2 : Int) (x26_2 : Int), v6 = .int .i64 x6_2 ∧ v26 = .int .i64 x26_2 ∧ Q9a (dlog_Order.l0 kq a0 a1 x6_2 t158 (t158.length : Int) x26_2 = some (r1, r2, r3)) ∧ Q9a (kq ≤ kj2) ∧ Q9a (Kd.R (Kd.int .i64) 3 w' w.heap.size (fun _ => True) (.slice Ao15 t158.length co15) t158) ∧ Q9a (w'.heap[gb155]? = some (.cells #[.int .i64 0, (.slice none 0 0)] 26 (0, 0))) ∧ Q9a (Below w.heap.size w w'))
    case atStart => exact ⟨(wrap64 (t157 - 1)), (0), (by first | rfl | (simp; done) | (simp [*]; done)), (by first | rfl | (simp; done) | (simp [*]; done)), H', ⟨Nat.le_refl _⟩, ⟨by (with_reducible repeat (first | apply Kd.R_alloc | apply Kd.R_drewN | apply Kd.R_drew)); exact HO160.out⟩, ⟨by (with_reducible repeat (first | refine kN ?_ _ | refine kD ?_ | refine kA ?_ _)); exact BK155.out⟩, ⟨by repeat (first | (with_reducible first | exact HB.out | apply bA | apply bN | apply bD | refine bS ?_ GE155.out) | exact HB.out)⟩⟩
    case round =>
     clear H'
     try clear c2
     try clear p2
     try clear c4
     try clear c6
     try clear p6
     try clear c9
     try clear hcz10_0
     try clear hcz10_1
     try clear hfz10_0
     try clear hfz10_1
     try clear p2
     obtain ⟨x6_2, x26_2, rfl, rfl, HA, HK2, HO_24, BK155, HB⟩ := hrel
     cases gk with
     | zero => exact absurd HA.out (by simp [dlog_Order.l0])
     | succ k2 =>
      have H := HA.out
      clear HA
      simp only [dlog_Order.l0] at H
      by_cases c16 : x26_2 < (t158.length : Int)
      ·rw [if_pos c16] at H
       have c16b0 : decide (x26_2 < (t158.length : Int)) = true := decide_eq_true c16
       clear c16
       by_cases c17 : 0 ≤ x26_2
       ·rw [if_pos c17] at H
        have c17b0 : decide (0 ≤ x26_2) = true := decide_eq_true c17
        clear c17
        by_cases c18 : x26_2 < (t158.length : Int)
        ·rw [if_pos c18] at H
         have c18b0 : decide (x26_2 < (t158.length : Int)) = true := decide_eq_true c18
         clear c18
         have H' := Q9a.mk H
         clear H
         have p164 : 0 ≤ (x26_2 : Int) := of_decide_eq_true (by first | (with_reducible assumption) | assumption)
         have q164 : x26_2 < (t158.length : Int) := of_decide_eq_true (by first | (with_reducible assumption) | assumption)
         obtain ⟨ad164, e164, hx164_0⟩ := Kd.at_int (Kd.R_reads' HO_24.out).2.2 x26_2 p164 q164
         cases e164
         replace p164 := eq_true p164
         replace q164 := eq_true q164
         go_wp2
         go_loopg [6] k2 (fun kq v6 w' => ∃ (x6_3 : Int), v6 = .int .i64 x6_3 ∧ Q9a (dlog_Order.l1 kq a0 a1 x6_3 (rd t158 x26_2) t158 (t158.length : Int) x26_2 = some (r1, r2, r3)) ∧ Q9a (kq ≤ k2) ∧ Q9a (Kd.R (Kd.int .i64) 3 w' w.heap.size (fun _ => True) (.slice (some ad164) t158.length co15) t158) ∧ Q9a (w'.heap[gb155]? = some (.cells #[.int .i64 0, (.slice none 0 0)] 26 (0, 0))) ∧ Q9a (Below w.heap.size w w'))
         case atStart => exact ⟨(x6_2), (by first | rfl | (simp; done) | (simp [*]; done)), H', ⟨Nat.le_refl _⟩, ⟨by (with_reducible repeat (first | apply Kd.R_alloc | apply Kd.R_drewN | apply Kd.R_drew)); exact HO_24.out⟩, ⟨by (with_reducible repeat (first | refine kN ?_ _ | refine kD ?_ | refine kA ?_ _)); exact BK155.out⟩, ⟨by repeat (first | (with_reducible first | exact HB.out | apply bA | apply bN | apply bD | refine bS ?_ GE155.out) | exact HB.out)⟩⟩
         case round =>
          clear H'
          try clear c1
          try clear p1
          try clear q1
          try clear hx1
          try clear c2
          try clear p2
          try clear c4
          try clear c6
          try clear p6
          try clear c9
          try clear c16
          try clear c16b0
          try clear p16
          try clear q16
          try clear hx16
          try clear c17
          try clear c17b0
          try clear c18
          try clear c18b0
          try clear hcz10_0
          try clear hcz10_1
          try clear hfz10_0
          try clear hfz10_1
          try clear hx164_0
          try clear p164
          try clear p2
          try clear p6
          try clear q164
          obtain ⟨x6_3, rfl, HA, HK3, HO_24, BK155, HB⟩ := hrel
          cases gk with
          | zero => exact absurd HA.out (by simp [dlog_Order.l1])
          | succ k3 =>
           have H := HA.out
           clear HA
           simp only [dlog_Order.l1] at H
           by_cases c19 : (rd t158 x26_2) = 0
           ·rw [if_pos c19] at H
            exact absurd H (by simp)
           ·rw [if_neg c19] at H
            have c19b0 : ((rd t158 x26_2) == 0) = false := beq_eq_false_iff_ne.mpr c19
            have c19b1 : ((rd t158 x26_2) != 0) = true := bne_iff_ne.mpr c19
            by_cases c20 : (Int.tmod x6_3 (rd t158 x26_2)) = 0
            ·rw [if_pos c20] at H
             have c20b0 : ((Int.tmod x6_3 (rd t158 x26_2)) == 0) = true := beq_iff_eq.mpr c20
             have c20b1 : ((Int.tmod x6_3 (rd t158 x26_2)) != 0) = false := bne_eq_false_iff_eq.mpr c20
             clear c20
             replace H := Option.bind_eq_some_iff.mp H
             obtain ⟨⟨t165, t166⟩, A210, H⟩ := H
             replace H : (if t165 = 1 then (dlog_Order.l1 k3 a0 a1 (wrap64 (Int.tdiv x6_3 (rd t158 x26_2))) (rd t158 x26_2) t158 (t158.length : Int) x26_2) else (dlog_Order.l0 k3 a0 a1 x6_3 t158 (t158.length : Int) (wrap64 (x26_2 + 1)))) = some (r1, r2, r3) := H
             have A21 := Q9a.mk A210
             clear A210
             by_cases c22 : t165 = 1
             ·rw [if_pos c22] at H
              have c22b0 : (t165 == 1) = true := beq_iff_eq.mpr c22
              have c22b1 : (t165 != 1) = false := bne_eq_false_iff_eq.mpr c22
              clear c22
              have H' := Q9a.mk H
              clear H
              go_wp2_with (first | ((with_reducible refine gate_callee (f := 16) rfl ?_); refine goesL_ (some 40) rfl rfl Try.func16 (by kernel_rfl) rfl #[.pointer (some ⟨b_a0, 0, none⟩), .int .i64 a1, .int .i64 (wrap64 (Int.tdiv x6_3 (rd t158 x26_2)))] rfl (by (try simp only [List.map_toArray, List.map_cons, List.map_nil]); first | done | rfl | (simp only [List.length_drop, List.length_take]; rfl)) ?_; (with_reducible refine (field_GF_Pow.calls b_a0 a0 a1 (wrap64 (Int.tdiv x6_3 (rd t158 x26_2))) t165 t166 _ ?side1 A21.out).mono ?_); (case side1 => exact GFok.belowT HG_a0.out (by repeat (first | (with_reducible first | exact HB.out | apply bA | apply bN | apply bD | refine bS ?_ GE155.out) | exact HB.out))); rintro e w23 ⟨rfl, hb⟩; refine ⟨_, rfl, ?_⟩; have n0_ := Q9a.mk (Kd.R_below (by (with_reducible repeat (first | apply Kd.R_alloc | apply Kd.R_drewN | apply Kd.R_drew)); exact HO_24.out) hb); have n1_ := Q9a.mk (kB (g := gb155) (o := .cells #[.int .i64 0, .slice none 0 0] 26 (0, 0)) (by (with_reducible repeat (first | refine kN ?_ _ | refine kD ?_ | refine kA ?_ _)); exact BK155.out) hb); have n2_ := Q9a.mk (bP (by repeat (first | (with_reducible first | exact HB.out | apply bA | apply bN | apply bD | refine bS ?_ GE155.out) | exact HB.out)) hb); clear HO_24; clear BK155; clear HB; have HO_24 := n0_; have BK155 := n1_; have HB := n2_; clear n0_ n1_ n2_; (try clear hb); (try clear hb2); (try clear hk); (try clear hi)))
              go_roundg k3
              case measure => have := HJ2.out; have := HK2.out; have := HK3.out; omega
              case rel => exact ⟨(wrap64 (Int.tdiv x6_3 (rd t158 x26_2))), (by first | rfl | (simp; done) | (simp [*]; done)), H', ⟨by have := HJ2.out; have := HK2.out; have := HK3.out; omega⟩, ⟨by (with_reducible repeat (first | apply Kd.R_alloc | apply Kd.R_drewN | apply Kd.R_drew)); exact HO_24.out⟩, ⟨by (with_reducible repeat (first | refine kN ?_ _ | refine kD ?_ | refine kA ?_ _)); exact BK155.out⟩, ⟨by repeat (first | (with_reducible first | exact HB.out | apply bA | apply bN | apply bD | refine bS ?_ GE155.out) | exact HB.out)⟩⟩
             ·rw [if_neg c22] at H
              have c22b0 : (t165 == 1) = false := beq_eq_false_iff_ne.mpr c22
              have c22b1 : (t165 != 1) = true := bne_iff_ne.mpr c22
              have H' := Q9a.mk H
              clear H
              go_wp2_with (first | ((with_reducible refine gate_callee (f := 16) rfl ?_); refine goesL_ (some 40) rfl rfl Try.func16 (by kernel_rfl) rfl #[.pointer (some ⟨b_a0, 0, none⟩), .int .i64 a1, .int .i64 (wrap64 (Int.tdiv x6_3 (rd t158 x26_2)))] rfl (by (try simp only [List.map_toArray, List.map_cons, List.map_nil]); first | done | rfl | (simp only [List.length_drop, List.length_take]; rfl)) ?_; (with_reducible refine (field_GF_Pow.calls b_a0 a0 a1 (wrap64 (Int.tdiv x6_3 (rd t158 x26_2))) t165 t166 _ ?side1 A21.out).mono ?_); (case side1 => exact GFok.belowT HG_a0.out (by repeat (first | (with_reducible first | exact HB.out | apply bA | apply bN | apply bD | refine bS ?_ GE155.out) | exact HB.out))); rintro e w24 ⟨rfl, hb⟩; refine ⟨_, rfl, ?_⟩; have n0_ := Q9a.mk (Kd.R_below (by (with_reducible repeat (first | apply Kd.R_alloc | apply Kd.R_drewN | apply Kd.R_drew)); exact HO_24.out) hb); have n1_ := Q9a.mk (kB (g := gb155) (o := .cells #[.int .i64 0, .slice none 0 0] 26 (0, 0)) (by (with_reducible repeat (first | refine kN ?_ _ | refine kD ?_ | refine kA ?_ _)); exact BK155.out) hb); have n2_ := Q9a.mk (bP (by repeat (first | (with_reducible first | exact HB.out | apply bA | apply bN | apply bD | refine bS ?_ GE155.out) | exact HB.out)) hb); clear HO_24; clear BK155; clear HB; have HO_24 := n0_; have BK155 := n1_; have HB := n2_; clear n0_ n1_ n2_; (try clear hb); (try clear hb2); (try clear hk); (try clear hi)))
              go_roundg k3
              case measure => have := HJ2.out; have := HK2.out; have := HK3.out; omega
              case rel => exact ⟨(x6_3), (wrap64 (x26_2 + 1)), (by first | rfl | (simp; done) | (simp [*]; done)), (by first | rfl | (simp; done) | (simp [*]; done)), H', ⟨by have := HJ2.out; have := HK2.out; have := HK3.out; omega⟩, ⟨by (with_reducible repeat (first | apply Kd.R_alloc | apply Kd.R_drewN | apply Kd.R_drew)); exact HO_24.out⟩, ⟨by (with_reducible repeat (first | refine kN ?_ _ | refine kD ?_ | refine kA ?_ _)); exact BK155.out⟩, ⟨by repeat (first | (with_reducible first | exact HB.out | apply bA | apply bN | apply bD | refine bS ?_ GE155.out) | exact HB.out)⟩⟩
            ·rw [if_neg c20] at H
             have c20b0 : ((Int.tmod x6_3 (rd t158 x26_2)) == 0) = false := beq_eq_false_iff_ne.mpr c20
             have c20b1 : ((Int.tmod x6_3 (rd t158 x26_2)) != 0) = true := bne_iff_ne.mpr c20
             have H' := Q9a.mk H
             clear H
             go_wp2
             go_roundg k3
             case measure => have := HJ2.out; have := HK2.out; have := HK3.out; omega
             case rel => exact ⟨(x6_3), (wrap64 (x26_2 + 1)), (by first | rfl | (simp; done) | (simp [*]; done)), (by first | rfl | (simp; done) | (simp [*]; done)), H', ⟨by have := HJ2.out; have := HK2.out; have := HK3.out; omega⟩, ⟨by (with_reducible repeat (first | apply Kd.R_alloc | apply Kd.R_drewN | apply Kd.R_drew)); exact HO_24.out⟩, ⟨by (with_reducible repeat (first | refine kN ?_ _ | refine kD ?_ | refine kA ?_ _)); exact BK155.out⟩, ⟨by repeat (first | (with_reducible first | exact HB.out | apply bA | apply bN | apply bD | refine bS ?_ GE155.out) | exact HB.out)⟩⟩
        ·rw [if_neg c18] at H
         exact absurd H (by simp)
       ·rw [if_neg c17] at H
        exact absurd H (by simp)
      ·rw [if_neg c16] at H
       have c16b0 : decide (x26_2 < (t158.length : Int)) = false := decide_eq_false c16
       clear c16
       replace H := Option.bind_eq_some_iff.mp H
       obtain ⟨t161, A250, H⟩ := H
       replace H : (some (x6_2, t161, 0)) = some (r1, r2, r3) := H
       have A25 := Q9a.mk A250
       clear A250
       simp only [Option.some.injEq, Prod.mk.injEq] at H
       obtain ⟨rfl, rfl, rfl⟩ := H
       go_wp2_with (first | ((with_reducible refine gate_callee (f := 43) rfl ?_); refine goesL_ (some 51) rfl rfl Try.func43 (by kernel_rfl) rfl #[.int .i64 x6_2] rfl (by (try simp only [List.map_toArray, List.map_cons, List.map_nil]); first | done | rfl | (simp only [List.length_drop, List.length_take]; rfl)) ?_; (with_reducible refine (dlog_primes.calls k2 x6_2 t161 _ A25.out).mono ?_); rintro e w26 ⟨v162, rfl, ho0, hb⟩; refine ⟨_, rfl, ?_⟩; have n0_ := Q9a.mk (Kd.R_elder' (by (with_reducible repeat (first | apply Kd.R_alloc | apply Kd.R_drewN | apply Kd.R_drew)); exact HO_24.out) (Kd.R_base ho0) hb); have n1_ := Q9a.mk (Kd.R_lower (Kd.R_new' ho0 (Kd.R_lt (by (with_reducible repeat (first | apply Kd.R_alloc | apply Kd.R_drewN | apply Kd.R_drew)); exact HO_24.out))) (bZ (by repeat (first | (with_reducible first | exact HB.out | apply bA | apply bN | apply bD | refine bS ?_ GE155.out) | exact HB.out)))); have n2_ := Q9a.mk (kB (g := gb155) (o := .cells #[.int .i64 0, .slice none 0 0] 26 (0, 0)) (by (with_reducible repeat (first | refine kN ?_ _ | refine kD ?_ | refine kA ?_ _)); exact BK155.out) hb); have n3_ := Q9a.mk (bP (by repeat (first | (with_reducible first | exact HB.out | apply bA | apply bN | apply bD | refine bS ?_ GE155.out) | exact HB.out)) hb); clear HO_24; clear BK155; clear HB; have HO_24 := n0_; have HO163 := n1_; have BK155 := n2_; have HB := n3_; clear n0_ n1_ n2_ n3_; (try clear hb); (try clear hb2); (try clear hk); (try clear hi); (try clear ho0); obtain ⟨Ao27, co27, eo27⟩ := Kd.R_slice HO163.out; subst eo27; have hcz28_0 : w26.cell? ⟨gb155, 0, none⟩ = some (.int .i64 0) := (kC BK155.out 0).trans rfl; have hcz28_1 : w26.cell? ⟨gb155, 1, none⟩ = some (.slice none 0 0) := (kC BK155.out 1).trans rfl; have hfz28_0 := kF BK155.out 0; have hfz28_1 := kF BK155.out 1))
       refine bodyPost_ret (results_ct rfl _ _ gb155 26 #[.int .i64 x6_2, .slice Ao27 t161.length co27] (0, 0) _ rfl (by (with_reducible repeat (first | refine kN ?_ _ | refine kD ?_ | refine kA ?_ _)); refine blk_put (cs := #[.int .i64 x6_2, .slice none 0 0]) ?_ 1 _ rfl; (with_reducible repeat (first | refine kN ?_ _ | refine kD ?_ | refine kA ?_ _)); refine blk_put (cs := #[.int .i64 0, .slice none 0 0]) ?_ 0 _ rfl; (with_reducible repeat (first | refine kN ?_ _ | refine kD ?_ | refine kA ?_ _)); exact BK155.out) Try.underlying26 rfl (by kernel_rfl)) rfl ?_
       exact ⟨_, by first | rfl | (simp [eN, eS] <;> rfl) | (simp [*, eN, eS] <;> rfl), by (with_reducible repeat (first | apply Kd.R_alloc | apply Kd.R_drewN | apply Kd.R_drew)); exact Kd.R_mono (Kd.R_far (p := ⟨gb155, 1, none⟩) (Kd.R_far (p := ⟨gb155, 0, none⟩) (Kd.R_types HO163.out BK155.out (by decide)) (fun _ hk => hk.2) (.int .i64 x6_2)) (fun _ hk => hk.2) (.slice Ao27 t161.length co27)) (fun _ hk => trivial), by repeat (first | (with_reducible first | exact HB.out | apply bA | apply bN | apply bD | refine bS ?_ GE155.out) | exact HB.out)⟩
def dlog_IsPrimitive.f (k : Nat) (a0 : GFv) (a1 : Int) : Option (Bool) := (dlog_Order.f k a0 a1).bind fun bt167 => (if bt167.2.2 = 0 then ((field_GF_Order.f a0).bind fun t173 => (some (bt167.1 == (wrap64 (t173 - 1))))) else (some false))
def dlog_IsPrimitive.T2 : Bool × List (List Nat × List Nat) := (true, [([], []), ([0], [0]), ([1], [1]), ([2], [2]), ([3, 2], [2, 3]), ([2], [2]), ([5, 2, 2], [2, 5]), ([6, 2], [2, 6]), ([4, 7, 2], [2, 4, 7]), ([2, 8], [2, 8]), ([9, 6, 0, 1, 2, 3, 4, 5, 6, 7, 8, 9], [9])])
def dlog_IsPrimitive.B2 : List Nat := [0, 1, 3, 7, 15, 7, 39, 103, 255, 511, 1023]
theorem dlog_IsPrimitive.tab2 : rtab .any (opsOf Try.f19 2) = dlog_IsPrimitive.T2 := by kernel_rfl
theorem dlog_IsPrimitive.bits2 : waitsOk dlog_IsPrimitive.T2.2 dlog_IsPrimitive.B2 = true := by kernel_rfl
set_option maxHeartbeats 8000000 in
set_option maxRecDepth 100000 in
theorem dlog_IsPrimitive.calls (k : Nat) (b_a0 : Nat) (a0 : GFv) (a1 : Int) (r : Bool) (w : World) (hg0 : GFok w b_a0 a0) (h : dlog_IsPrimitive.f k a0 a1 = some r) :
  Calls Try.prog 19 #[.pointer (some ⟨b_a0, 0, none⟩), .int .i64 a1] w fun e w' => e = .returned (.bool r) ∧ Below w.heap.size w w' := by
 have hu26 := Try.underlying26
 have HG_a0 := Q9a.mk hg0
 clear hg0
 have HB := Q9a.mk (Below.refl w.heap.size w)
 have H : ((dlog_Order.f k a0 a1).bind fun bt167 => (if bt167.2.2 = 0 then ((field_GF_Order.f a0).bind fun t173 => (some (bt167.1 == (wrap64 (t173 - 1))))) else (some false))) = some r := h
 clear h
 replace H := Option.bind_eq_some_iff.mp H
 obtain ⟨⟨t167, t168, t171⟩, A30, H⟩ := H
 replace H : (if t171 = 0 then ((field_GF_Order.f a0).bind fun t173 => (some (t167 == (wrap64 (t173 - 1))))) else (some false)) = some r := H
 have A3 := Q9a.mk A30
 clear A30
 by_cases c4 : t171 = 0
 ·rw [if_pos c4] at H
  have c4b0 : (t171 == 0) = true := beq_iff_eq.mpr c4
  have c4b1 : (t171 != 0) = false := bne_eq_false_iff_eq.mpr c4
  clear c4
  replace H := Option.bind_eq_some_iff.mp H
  obtain ⟨t173, A50, H⟩ := H
  replace H : (some (t167 == (wrap64 (t173 - 1)))) = some r := H
  have A5 := Q9a.mk A50
  clear A50
  obtain rfl := Option.some.inj H
  go_enter Try.func19, Try.ntmps19
  try go_wp2_with (first | ((with_reducible refine gate_callee (f := 21) rfl ?_); refine goesL_ (some 10) rfl rfl Try.func21 (by kernel_rfl) rfl #[.pointer (some ⟨b_a0, 0, none⟩), .int .i64 a1] rfl (by (try simp only [List.map_toArray, List.map_cons, List.map_nil]); first | done | rfl | (simp only [List.length_drop, List.length_take]; rfl)) ?_; (with_reducible refine (dlog_Order.calls k b_a0 a0 a1 t167 t168 t171 _ ?side1 A3.out).mono ?_); (case side1 => exact GFok.belowT HG_a0.out (by repeat (first | (with_reducible first | exact HB.out | apply bA | apply bN | apply bD) | exact HB.out))); rintro e w6 ⟨v169, rfl, ho0, hb⟩; refine ⟨_, rfl, ?_⟩; have n0_ := Q9a.mk (Kd.R_lower ho0 (bZ (by repeat (first | (with_reducible first | exact HB.out | apply bA | apply bN | apply bD) | exact HB.out)))); have n1_ := Q9a.mk (bP (by repeat (first | (with_reducible first | exact HB.out | apply bA | apply bN | apply bD) | exact HB.out)) hb); clear HB; have HO170 := n0_; have HB := n1_; clear n0_ n1_; (try clear hb); (try clear hb2); (try clear hk); (try clear hi); (try clear ho0)) | ((with_reducible refine gate_dst (N := 5) rfl ?_); refine box_event ?hg (N := 5) ?hd (cs := #[.int .i64 0, .slice none 0 0]) (t := 26) ?hr ?_; (case hd => rfl); (case hg => rfl); (case hr => first | (go_simp; done) | (go_simp; rfl)); intro gb172 hg w7 hbox hb; have n0_ := Q9a.mk (Kd.R_below (by (with_reducible repeat (first | apply Kd.R_alloc | apply Kd.R_drewN | apply Kd.R_drew)); exact HO170.out) hb); have n1_ := Q9a.mk (bP (by repeat (first | (with_reducible first | exact HB.out | apply bA | apply bN | apply bD) | exact HB.out)) hb); have n2_ := Q9a.mk (hbox); have n3_ := Q9a.mk ((by rw [hg]; exact (bZ (by repeat (first | (with_reducible first | exact HB.out | apply bA | apply bN | apply bD) | exact HB.out))) : w.heap.size ≤ gb172)); have n4_ := Q9a.mk ((by rw [hg]; exact (bZ (by repeat (first | (with_reducible first | exact HB.out | apply bA | apply bN | apply bD) | exact HB.out))) : w.heap.size ≤ gb172)); clear HO170; clear HB; have HO170 := n0_; have HB := n1_; have BK172 := n2_; have GW172 := n3_; have GE172 := n4_; clear n0_ n1_ n2_ n3_ n4_; clear hb hbox hg; have hcz8_0 : w7.cell? ⟨gb172, 0, none⟩ = some (.int .i64 0) := (kC BK172.out 0).trans rfl; have hcz8_1 : w7.cell? ⟨gb172, 1, none⟩ = some (.slice none 0 0) := (kC BK172.out 1).trans rfl; have hfz8_0 := kF BK172.out 0; have hfz8_1 := kF BK172.out 1; obtain ⟨Ao9, co9, eo9⟩ := Kd.R_slice HO170.out; subst eo9))
  have n0_ : Q9a (Kd.R (Kd.int .i64) 3 ((w7.setCell ⟨gb172, 0, none⟩ (.int .i64 t167)).setCell ⟨gb172, 1, none⟩ (.slice Ao9 t168.length co9)) w.heap.size (fun _ => True) (.slice Ao9 t168.length co9) t168) := ⟨by (with_reducible repeat (first | apply Kd.R_alloc | apply Kd.R_drewN | apply Kd.R_drew)); exact Kd.R_mono (Kd.R_far (p := ⟨gb172, 1, none⟩) (Kd.R_far (p := ⟨gb172, 0, none⟩) (Kd.R_types HO170.out BK172.out (by decide)) (fun _ hk => hk.2) (.int .i64 t167)) (fun _ hk => hk.2) (.slice Ao9 t168.length co9)) (fun _ hk => trivial)⟩
  have n1_ : Q9a (((w7.setCell ⟨gb172, 0, none⟩ (.int .i64 t167)).setCell ⟨gb172, 1, none⟩ (.slice Ao9 t168.length co9)).heap[gb172]? = some (.cells #[.int .i64 t167, .slice Ao9 t168.length co9] 26 (0, 0))) := ⟨by (with_reducible repeat (first | refine kN ?_ _ | refine kD ?_ | refine kA ?_ _)); refine blk_put (cs := #[.int .i64 t167, .slice none 0 0]) ?_ 1 _ rfl; (with_reducible repeat (first | refine kN ?_ _ | refine kD ?_ | refine kA ?_ _)); refine blk_put (cs := #[.int .i64 0, .slice none 0 0]) ?_ 0 _ rfl; (with_reducible repeat (first | refine kN ?_ _ | refine kD ?_ | refine kA ?_ _)); exact BK172.out⟩
  have n2_ : Q9a (Below w.heap.size w ((w7.setCell ⟨gb172, 0, none⟩ (.int .i64 t167)).setCell ⟨gb172, 1, none⟩ (.slice Ao9 t168.length co9))) := ⟨by repeat (first | (with_reducible first | exact HB.out | apply bA | apply bN | apply bD | refine bS ?_ GE172.out) | exact HB.out)⟩
  (try clear HO170)
  (try clear BK172)
  (try clear HB)
  generalize ((w7.setCell ⟨gb172, 0, none⟩ (.int .i64 t167)).setCell ⟨gb172, 1, none⟩ (.slice Ao9 t168.length co9)) = w10 at n0_ n1_ n2_ ⊢
  have HO170 := n0_
  have BK172 := n1_
  have HB := n2_
  clear n0_ n1_ n2_
  have n0_ := Q9a.mk (Kd.R_drew HO170.out)
  have n1_ := Q9a.mk (kD BK172.out)
  have n2_ := Q9a.mk (bD HB.out)
  clear HO170
  clear BK172
  clear HB
  have HO170 := n0_
  have BK172 := n1_
  have HB := n2_
  clear n0_ n1_ n2_
  refine start_ (n := 11) (S := fun w' => w'.cell? ⟨gb172, 0, none⟩ = some (.int .i64 t167) ∧ w'.cell? ⟨gb172, 1, none⟩ = some (.slice Ao9 t168.length co9)) (ds := []) #[false, false, false, false, false, false, false, false, false, false, false] (by kernel_rfl) rfl rfl ⟨(kC BK172.out 0).trans rfl, (kC BK172.out 1).trans rfl⟩ (fun hHeld => ?_); refine with_tabW dlog_IsPrimitive.tab2 dlog_IsPrimitive.bits2 (fun HT_ HW_ => ?_)
  generalize w10.drew = w11 at HO170 BK172 HB hHeld ⊢
  refine pure_ (i := 0) (N := some 13) (v := ?_) (a' := ?_) #[true, false, false, false, false, false, false, false, false, false, false] rfl rfl (any_of HT_.out (by kernel_rfl)) (fun _ _ _ h => h) (Or.inl ⟨by rfl, ?_⟩) ?_ ?_
  rotate_left
  ·intro w'
   go_simp
   with_reducible rfl
  rotate_left
  ·simp only [Act.put, sz1, sz2, sz3, i64_w, i32_w]
   rfl
  refine pure_ (i := 1) (N := some 14) (v := ?_) (a' := ?_) #[true, true, false, false, false, false, false, false, false, false, false] rfl rfl (any_of HT_.out (by kernel_rfl)) (fun _ _ _ h => h) (Or.inl ⟨by rfl, ?_⟩) ?_ ?_
  rotate_left
  ·intro w'
   go_simp
   with_reducible rfl
  rotate_left
  ·simp only [Act.put, sz1, sz2, sz3, i64_w, i32_w]
   rfl
  refine pure_ (i := 2) (N := some 15) (v := ?_) (a' := ?_) #[true, true, true, false, false, false, false, false, false, false, false] rfl rfl (any_of HT_.out (by kernel_rfl)) (fun _ _ _ h => h) (Or.inl ⟨by rfl, ?_⟩) ?_ ?_
  rotate_left
  ·intro w'
   go_simp
   with_reducible rfl
  rotate_left
  ·simp only [Act.put, sz1, sz2, sz3, i64_w, i32_w]
   rfl
  refine pure_ (i := 3) (N := some 16) (v := ?_) (a' := ?_) #[true, true, true, true, false, false, false, false, false, false, false] rfl rfl (any_of HT_.out (by kernel_rfl)) (fun _ _ _ h => h) (Or.inl ⟨by rfl, ?_⟩) ?_ ?_
  rotate_left
  ·intro w'
   go_simp
   with_reducible rfl
  rotate_left
  ·simp only [Act.put, sz1, sz2, sz3, i64_w, i32_w]
   rfl
  refine pure_ (i := 5) (N := some 18) (v := ?_) (a' := ?_) #[true, true, true, true, false, true, false, false, false, false, false] rfl rfl (any_of HT_.out (by kernel_rfl)) (fun _ _ _ h => h) (Or.inl ⟨by rfl, ?_⟩) ?_ ?_
  rotate_left
  ·intro w'
   go_simp
   with_reducible rfl
  rotate_left
  ·simp only [Act.put, sz1, sz2, sz3, i64_w, i32_w]
   rfl
  refine take_ (i := 4) (N := some 17) (v := ?_) (a' := ?_) #[true, true, true, true, true, true, false, false, false, false, false] rfl rfl (take_ofW HT_.out HW_.out (by kernel_rfl)) (fun _ _ _ h => h) (Or.inl ⟨by rfl, ?_⟩) hHeld ?_ ?_
  rotate_left
  ·rintro w' ⟨s0, s1⟩
   go_simp
   with_reducible rfl
  rotate_left
  ·simp only [Act.put, sz1, sz2, sz3, i64_w, i32_w]
   rfl
  refine one_ (i := 6) (N := some 19) #[true, true, true, true, true, true, true, false, false, false, false] rfl rfl (one_of HT_.out (by kernel_rfl)) (by decide) (fun K hK => ?_)
  refine goes_ Try.func41 (by kernel_rfl) rfl #[.pointer (some ⟨b_a0, 0, none⟩)] (by rfl) rfl rfl (by (try simp only [List.map_toArray, List.map_cons, List.map_nil]); first | done | rfl | (simp only [List.length_drop, List.length_take]; rfl)) ?_
  with_reducible refine (field_GF_Order.calls b_a0 a0 t173 _ ?side1 A5.out).mono ?_
  (case side1 => exact GFok.belowT HG_a0.out (by repeat (first | (with_reducible first | exact HB.out | apply bA | apply bN | apply bD | refine bS ?_ GE172.out) | exact HB.out)))
  rintro e w12 ⟨rfl, hb⟩
  refine ⟨_, rfl, ?_⟩
  have n0_ := Q9a.mk (Kd.R_below (by (with_reducible repeat (first | apply Kd.R_alloc | apply Kd.R_drewN | apply Kd.R_drew)); exact HO170.out) hb)
  have n1_ := Q9a.mk (kB (g := gb172) (o := .cells #[.int .i64 t167, .slice Ao9 t168.length co9] 26 (0, 0)) (by (with_reducible repeat (first | refine kN ?_ _ | refine kD ?_ | refine kA ?_ _)); exact BK172.out) hb)
  have n2_ := Q9a.mk (bP (by repeat (first | (with_reducible first | exact HB.out | apply bA | apply bN | apply bD | refine bS ?_ GE172.out) | exact HB.out)) hb)
  clear HO170
  clear BK172
  clear HB
  have HO170 := n0_
  have BK172 := n1_
  have HB := n2_
  clear n0_ n1_ n2_
  (try clear hb)
  (try clear hb2)
  (try clear hk)
  (try clear hi)
  refine hK.out _ _ ⟨(kC BK172.out 0).trans rfl, (kC BK172.out 1).trans rfl⟩ (fun hHeld => ?_)
  clear hK K
  refine norm_ (a' := ?_) ?_ ?_
  rotate_left
  ·show Act.put _ (some 19) _ = _
   simp only [Act.put, sz1, sz2, sz3, i64_w, i32_w]
   rfl
  refine pure_ (i := 7) (N := some 20) (v := ?_) (a' := ?_) #[true, true, true, true, true, true, true, true, false, false, false] rfl rfl (any_of HT_.out (by kernel_rfl)) (fun _ _ _ h => h) (Or.inl ⟨by rfl, ?_⟩) ?_ ?_
  rotate_left
  ·intro w'
   go_simp
   with_reducible rfl
  rotate_left
  ·simp only [Act.put, sz1, sz2, sz3, i64_w, i32_w]
   rfl
  refine pure_ (i := 8) (N := some 21) (v := ?_) (a' := ?_) #[true, true, true, true, true, true, true, true, true, false, false] rfl rfl (any_of HT_.out (by kernel_rfl)) (fun _ _ _ h => h) (Or.inl ⟨by rfl, ?_⟩) ?_ ?_
  rotate_left
  ·intro w'
   go_simp
   with_reducible rfl
  rotate_left
  ·simp only [Act.put, sz1, sz2, sz3, i64_w, i32_w]
   rfl
  refine pure_ (i := 9) (N := some 22) (v := ?_) (a' := ?_) #[true, true, true, true, true, true, true, true, true, true, false] rfl rfl (any_of HT_.out (by kernel_rfl)) (fun _ _ _ h => h) (Or.inl ⟨by rfl, ?_⟩) ?_ ?_
  rotate_left
  ·intro w'
   go_simp
   with_reducible rfl
  rotate_left
  ·simp only [Act.put, sz1, sz2, sz3, i64_w, i32_w]
   rfl
  refine pure_ (i := 10) (N := some 4) (v := ?_) (a' := ?_) #[true, true, true, true, true, true, true, true, true, true, true] rfl rfl (any_of HT_.out (by kernel_rfl)) (fun _ _ _ h => h) (Or.inl ⟨by rfl, ?_⟩) ?_ ?_
  rotate_left
  ·intro w'
   go_simp
   with_reducible rfl
  rotate_left
  ·simp only [Act.put, sz1, sz2, sz3, i64_w, i32_w]
   rfl
  refine done_ (done_of HT_.out (by kernel_rfl)) ?_
  try go_wp2
  go_ret
  exact ⟨by first | rfl | (simp [eN, eS] <;> rfl) | (simp [*, eN, eS] <;> rfl), by repeat (first | (with_reducible first | exact HB.out | apply bA | apply bN | apply bD | refine bS ?_ GE172.out) | exact HB.out)⟩
 ·rw [if_neg c4] at H
  have c4b0 : (t171 == 0) = false := beq_eq_false_iff_ne.mpr c4
  have c4b1 : (t171 != 0) = true := bne_iff_ne.mpr c4
  obtain rfl := Option.some.inj H
  go_enter Try.func19, Try.ntmps19
  try go_wp2_with (first | ((with_reducible refine gate_callee (f := 21) rfl ?_); refine goesL_ (some 10) rfl rfl Try.func21 (by kernel_rfl) rfl #[.pointer (some ⟨b_a0, 0, none⟩), .int .i64 a1] rfl (by (try simp only [List.map_toArray, List.map_cons, List.map_nil]); first | done | rfl | (simp only [List.length_drop, List.length_take]; rfl)) ?_; (with_reducible refine (dlog_Order.calls k b_a0 a0 a1 t167 t168 t171 _ ?side1 A3.out).mono ?_); (case side1 => exact GFok.belowT HG_a0.out (by repeat (first | (with_reducible first | exact HB.out | apply bA | apply bN | apply bD) | exact HB.out))); rintro e w13 ⟨v169, rfl, ho0, hb⟩; refine ⟨_, rfl, ?_⟩; have n0_ := Q9a.mk (Kd.R_lower ho0 (bZ (by repeat (first | (with_reducible first | exact HB.out | apply bA | apply bN | apply bD) | exact HB.out)))); have n1_ := Q9a.mk (bP (by repeat (first | (with_reducible first | exact HB.out | apply bA | apply bN | apply bD) | exact HB.out)) hb); clear HB; have HO170 := n0_; have HB := n1_; clear n0_ n1_; (try clear hb); (try clear hb2); (try clear hk); (try clear hi); (try clear ho0)) | ((with_reducible refine gate_dst (N := 5) rfl ?_); refine box_event ?hg (N := 5) ?hd (cs := #[.int .i64 0, .slice none 0 0]) (t := 26) ?hr ?_; (case hd => rfl); (case hg => rfl); (case hr => first | (go_simp; done) | (go_simp; rfl)); intro gb172 hg w14 hbox hb; have n0_ := Q9a.mk (Kd.R_below (by (with_reducible repeat (first | apply Kd.R_alloc | apply Kd.R_drewN | apply Kd.R_drew)); exact HO170.out) hb); have n1_ := Q9a.mk (bP (by repeat (first | (with_reducible first | exact HB.out | apply bA | apply bN | apply bD) | exact HB.out)) hb); have n2_ := Q9a.mk (hbox); have n3_ := Q9a.mk ((by rw [hg]; exact (bZ (by repeat (first | (with_reducible first | exact HB.out | apply bA | apply bN | apply bD) | exact HB.out))) : w.heap.size ≤ gb172)); have n4_ := Q9a.mk ((by rw [hg]; exact (bZ (by repeat (first | (with_reducible first | exact HB.out | apply bA | apply bN | apply bD) | exact HB.out))) : w.heap.size ≤ gb172)); clear HO170; clear HB; have HO170 := n0_; have HB := n1_; have BK172 := n2_; have GW172 := n3_; have GE172 := n4_; clear n0_ n1_ n2_ n3_ n4_; clear hb hbox hg; have hcz15_0 : w14.cell? ⟨gb172, 0, none⟩ = some (.int .i64 0) := (kC BK172.out 0).trans rfl; have hcz15_1 : w14.cell? ⟨gb172, 1, none⟩ = some (.slice none 0 0) := (kC BK172.out 1).trans rfl; have hfz15_0 := kF BK172.out 0; have hfz15_1 := kF BK172.out 1; obtain ⟨Ao16, co16, eo16⟩ := Kd.R_slice HO170.out; subst eo16))
  have n0_ : Q9a (Kd.R (Kd.int .i64) 3 ((w14.setCell ⟨gb172, 0, none⟩ (.int .i64 t167)).setCell ⟨gb172, 1, none⟩ (.slice Ao16 t168.length co16)) w.heap.size (fun _ => True) (.slice Ao16 t168.length co16) t168) := ⟨by (with_reducible repeat (first | apply Kd.R_alloc | apply Kd.R_drewN | apply Kd.R_drew)); exact Kd.R_mono (Kd.R_far (p := ⟨gb172, 1, none⟩) (Kd.R_far (p := ⟨gb172, 0, none⟩) (Kd.R_types HO170.out BK172.out (by decide)) (fun _ hk => hk.2) (.int .i64 t167)) (fun _ hk => hk.2) (.slice Ao16 t168.length co16)) (fun _ hk => trivial)⟩
  have n1_ : Q9a (((w14.setCell ⟨gb172, 0, none⟩ (.int .i64 t167)).setCell ⟨gb172, 1, none⟩ (.slice Ao16 t168.length co16)).heap[gb172]? = some (.cells #[.int .i64 t167, .slice Ao16 t168.length co16] 26 (0, 0))) := ⟨by (with_reducible repeat (first | refine kN ?_ _ | refine kD ?_ | refine kA ?_ _)); refine blk_put (cs := #[.int .i64 t167, .slice none 0 0]) ?_ 1 _ rfl; (with_reducible repeat (first | refine kN ?_ _ | refine kD ?_ | refine kA ?_ _)); refine blk_put (cs := #[.int .i64 0, .slice none 0 0]) ?_ 0 _ rfl; (with_reducible repeat (first | refine kN ?_ _ | refine kD ?_ | refine kA ?_ _)); exact BK172.out⟩
  have n2_ : Q9a (Below w.heap.size w ((w14.setCell ⟨gb172, 0, none⟩ (.int .i64 t167)).setCell ⟨gb172, 1, none⟩ (.slice Ao16 t168.length co16))) := ⟨by repeat (first | (with_reducible first | exact HB.out | apply bA | apply bN | apply bD | refine bS ?_ GE172.out) | exact HB.out)⟩
  (try clear HO170)
  (try clear BK172)
  (try clear HB)
  generalize ((w14.setCell ⟨gb172, 0, none⟩ (.int .i64 t167)).setCell ⟨gb172, 1, none⟩ (.slice Ao16 t168.length co16)) = w17 at n0_ n1_ n2_ ⊢
  have HO170 := n0_
  have BK172 := n1_
  have HB := n2_
  clear n0_ n1_ n2_
  have n0_ := Q9a.mk (Kd.R_drew HO170.out)
  have n1_ := Q9a.mk (kD BK172.out)
  have n2_ := Q9a.mk (bD HB.out)
  clear HO170
  clear BK172
  clear HB
  have HO170 := n0_
  have BK172 := n1_
  have HB := n2_
  clear n0_ n1_ n2_
  refine start_ (n := 11) (S := fun w' => True) (ds := []) #[false, false, false, false, false, false, false, false, false, false, false] (by kernel_rfl) rfl rfl trivial (fun hHeld => ?_); refine with_tabW dlog_IsPrimitive.tab2 dlog_IsPrimitive.bits2 (fun HT_ HW_ => ?_)
  generalize w17.drew = w18 at HO170 BK172 HB hHeld ⊢
  refine pure_ (i := 0) (N := some 13) (v := ?_) (a' := ?_) #[true, false, false, false, false, false, false, false, false, false, false] rfl rfl (any_of HT_.out (by kernel_rfl)) (fun _ _ _ h => h) (Or.inl ⟨by rfl, ?_⟩) ?_ ?_
  rotate_left
  ·intro w'
   go_simp
   with_reducible rfl
  rotate_left
  ·simp only [Act.put, sz1, sz2, sz3, i64_w, i32_w]
   rfl
  refine pure_ (i := 1) (N := some 14) (v := ?_) (a' := ?_) #[true, true, false, false, false, false, false, false, false, false, false] rfl rfl (any_of HT_.out (by kernel_rfl)) (fun _ _ _ h => h) (Or.inl ⟨by rfl, ?_⟩) ?_ ?_
  rotate_left
  ·intro w'
   go_simp
   with_reducible rfl
  rotate_left
  ·simp only [Act.put, sz1, sz2, sz3, i64_w, i32_w]
   rfl
  refine pure_ (i := 2) (N := some 15) (v := ?_) (a' := ?_) #[true, true, true, false, false, false, false, false, false, false, false] rfl rfl (any_of HT_.out (by kernel_rfl)) (fun _ _ _ h => h) (Or.inl ⟨by rfl, ?_⟩) ?_ ?_
  rotate_left
  ·intro w'
   go_simp
   with_reducible rfl
  rotate_left
  ·simp only [Act.put, sz1, sz2, sz3, i64_w, i32_w]
   rfl
  refine pure_ (i := 3) (N := some 16) (v := undef) (a' := ?_) #[true, true, true, true, false, false, false, false, false, false, false] rfl rfl (any_of HT_.out (by kernel_rfl)) (fun _ _ _ h => h) (Or.inr ⟨by rfl, rfl⟩) ?_ ?_
  rotate_left
  ·simp only [Act.put, sz1, sz2, sz3, i64_w, i32_w]
   rfl
  refine pure_ (i := 4) (N := some 17) (v := undef) (a' := ?_) #[true, true, true, true, true, false, false, false, false, false, false] rfl rfl (any_of HT_.out (by kernel_rfl)) (fun _ _ _ h => h) (Or.inr ⟨by rfl, rfl⟩) ?_ ?_
  rotate_left
  ·simp only [Act.put, sz1, sz2, sz3, i64_w, i32_w]
   rfl
  refine pure_ (i := 5) (N := some 18) (v := undef) (a' := ?_) #[true, true, true, true, true, true, false, false, false, false, false] rfl rfl (any_of HT_.out (by kernel_rfl)) (fun _ _ _ h => h) (Or.inr ⟨by rfl, rfl⟩) ?_ ?_
  rotate_left
  ·simp only [Act.put, sz1, sz2, sz3, i64_w, i32_w]
   rfl
  refine pure_ (i := 6) (N := some 19) (v := undef) (a' := ?_) #[true, true, true, true, true, true, true, false, false, false, false] rfl rfl (any_of HT_.out (by kernel_rfl)) (fun _ _ _ h => h) (Or.inr ⟨by rfl, rfl⟩) ?_ ?_
  rotate_left
  ·simp only [Act.put, sz1, sz2, sz3, i64_w, i32_w]
   rfl
  refine pure_ (i := 7) (N := some 20) (v := undef) (a' := ?_) #[true, true, true, true, true, true, true, true, false, false, false] rfl rfl (any_of HT_.out (by kernel_rfl)) (fun _ _ _ h => h) (Or.inr ⟨by rfl, rfl⟩) ?_ ?_
  rotate_left
  ·simp only [Act.put, sz1, sz2, sz3, i64_w, i32_w]
   rfl
  refine pure_ (i := 8) (N := some 21) (v := undef) (a' := ?_) #[true, true, true, true, true, true, true, true, true, false, false] rfl rfl (any_of HT_.out (by kernel_rfl)) (fun _ _ _ h => h) (Or.inr ⟨by rfl, rfl⟩) ?_ ?_
  rotate_left
  ·simp only [Act.put, sz1, sz2, sz3, i64_w, i32_w]
   rfl
  refine pure_ (i := 9) (N := some 22) (v := ?_) (a' := ?_) #[true, true, true, true, true, true, true, true, true, true, false] rfl rfl (any_of HT_.out (by kernel_rfl)) (fun _ _ _ h => h) (Or.inl ⟨by rfl, ?_⟩) ?_ ?_
  rotate_left
  ·intro w'
   go_simp
   with_reducible rfl
  rotate_left
  ·simp only [Act.put, sz1, sz2, sz3, i64_w, i32_w]
   rfl
  refine pure_ (i := 10) (N := some 4) (v := ?_) (a' := ?_) #[true, true, true, true, true, true, true, true, true, true, true] rfl rfl (any_of HT_.out (by kernel_rfl)) (fun _ _ _ h => h) (Or.inl ⟨by rfl, ?_⟩) ?_ ?_
  rotate_left
  ·intro w'
   go_simp
   with_reducible rfl
  rotate_left
  ·simp only [Act.put, sz1, sz2, sz3, i64_w, i32_w]
   rfl
  refine done_ (done_of HT_.out (by kernel_rfl)) ?_
  try go_wp2
  go_ret
  exact ⟨by first | rfl | (simp [eN, eS] <;> rfl) | (simp [*, eN, eS] <;> rfl), by repeat (first | (with_reducible first | exact HB.out | apply bA | apply bN | apply bD | refine bS ?_ GE172.out) | exact HB.out)⟩
end
end Go.Proofs.Ytbohbfggmnjpdaa.P
end
-- GmInv
section
namespace Go.Proofs.Ytbohbfggmnjpdaa.Hand
noncomputable section
open Go.RowKit Go.Proofs.YtbohbfggmnjpdaaW.PrintWords
theorem gs_inv (G : GFv) (x : Int) : GS.field_GF_Inv.f (G.F.p : Int) (G.F.m : Int) G.mod (G.q : Int) G.exp G.log x = some ((G.inv x).1, (G.inv x).2, (G.F.p : Int), (G.F.m : Int), (G.q : Int)) := by
 have hq := G.q_le
 have hq2 := G.q_ge
 unfold GS.field_GF_Inv.f
 rw [gs_in]; simp only [Option.bind_some]
 unfold Cw.GFv.inv
 by_cases hx : G.inn x = 0
 ·rw [if_pos hx, if_pos (G.el_eq_zero.2 hx)]
 have hxe : G.el x ≠ 0 := fun h => hx (G.el_eq_zero.1 h)
 have ix := G.inn_is x
 have lx := G.lg_spec hxe
 have hlog := log_len G
 have hexp := exp_len G
 rw [if_neg hx, if_neg hxe, rd_log G ix, G.el_inn, w64 (n := (G.q : Int) - 1) (by omega) (by omega), show (G.q : Int) - 1 = ((G.q - 1 : Nat) : Int) from by omega,
  show (((G.q - 1 : Nat) : Int) - (G.lg (G.el x) : Int)) = ((G.q - 1 - G.lg (G.el x) : Nat) : Int) from by omega, w64n _ (by omega), Cw.tmod_nat]
 have hlt := Nat.mod_lt (G.q - 1 - G.lg (G.el x)) (show 0 < G.q - 1 by omega)
 rw [if_pos ix.1, if_pos (by rw [hlog]; exact ix.2), if_neg (by omega), if_pos (by omega), if_pos (by omega), rd_exp G hlt, G.pw_mod]
 have e : Cw.pw G.gen (G.q - 1 - G.lg (G.el x)) = Cw.pw (G.el x) (G.q - 2) := by
  refine Cw.mul_cancel hxe ?_
  have h1 : G.el x * Cw.pw (G.el x) (G.q - 2) = 1 := by
   rw [Cw.mul_comm, ← Cw.pw_succ, show G.q - 2 + 1 = G.q - 1 from by omega]
   exact Cw.pw_card hxe
  have h2 : G.el x * Cw.pw G.gen (G.q - 1 - G.lg (G.el x)) = 1 := by
   conv => lhs; lhs; rw [← lx.2]
   rw [← Cw.pw_add, show G.lg (G.el x) + (G.q - 1 - G.lg (G.el x)) = G.q - 1 from by omega]
   exact G.prim.pow_one
  rw [h1, h2]
 rw [e]
def field_GF_Inv.f (a0 : GFv) (a1 : Int) : Option (Int × Int) := some (a0.inv a1)
theorem field_GF_Inv.calls (b_a0 : Nat) (a0 : GFv) (a1 : Int) (r1 : Int) (r2 : Int) (w : World) (hg0 : GFok w b_a0 a0) (h : field_GF_Inv.f a0 a1 = some (r1, r2)) :
  Calls Try.prog 49 #[.pointer (some ⟨b_a0, 0, none⟩), .int .i64 a1] w fun e w' => e = .returned (.tuple #[.int .i64 r1, .int .i64 r2]) ∧ Below w.heap.size w w' := by
 have h' := Option.some.inj h
 obtain ⟨rfl, rfl⟩ : (a0.inv a1).1 = r1 ∧ (a0.inv a1).2 = r2 := by rw [h']; exact ⟨rfl, rfl⟩
 exact (GS.field_GF_Inv.calls b_a0 _ _ _ _ _ _ a1 _ _ _ _ _ w w hg0.isS (Below.refl _ _) (gs_inv a0 a1)).mono fun e w' h => ⟨h.1, h.2.2.1⟩
end
end Go.Proofs.Ytbohbfggmnjpdaa.Hand
end
-- Pa1
section
namespace Go.Proofs.Ytbohbfggmnjpdaa.P
noncomputable section
open Go.RowKit Go.Proofs.Ytbohbfggmnjpdaa.Hand Go.Proofs.YtbohbfggmnjpdaaW.PrintWords Go.Proofs.YtbohbfggmnjpdaaW.PrintLast Go.Proofs.YtbohbfggmnjpdaaW.PrintMore
set_option linter.unusedVariables false
set_option linter.unusedSimpArgs false
mutual
def field_order.j0 : Nat → Int → Int → Bool → Option (Int)
 | 0, _, _, _ => none
 | k + 1, x0, x1, x19 => if x19 = true then (some 0) else (field_order.l0 k x0 1 x1 0)
def field_order.l0 : Nat → Int → Int → Int → Int → Option (Int)
 | 0, _, _, _, _ => none
 | k + 1, x0, x5, x20, x21 => if x21 < x20 then (if (wrap64 (x5 * x0)) > 256 then (some 0) else (field_order.l0 k x0 (wrap64 (x5 * x0)) x20 (wrap64 (x21 + 1)))) else (some x5)
end
def field_order.f (k : Nat) (a0 : Int) (a1 : Int) : Option (Int) := if a0 < 2 then (field_order.j0 k a0 a1 true) else (if a0 > 256 then (field_order.j0 k a0 a1 true) else (if a1 < 1 then (field_order.j0 k a0 a1 true) else (field_order.j0 k a0 a1 (decide (a1 > 8)))))
set_option maxHeartbeats 8000000 in
set_option maxRecDepth 100000 in
theorem field_order.calls (k : Nat) (a0 : Int) (a1 : Int) (r : Int) (w : World) (h : field_order.f k a0 a1 = some r) :
  Calls Try.prog 58 #[.int .i64 a0, .int .i64 a1] w fun e w' => e = .returned (.int .i64 r) ∧ Drawn0 w w' := by
 have H : (if a0 < 2 then (field_order.j0 k a0 a1 true) else (if a0 > 256 then (field_order.j0 k a0 a1 true) else (if a1 < 1 then (field_order.j0 k a0 a1 true) else (field_order.j0 k a0 a1 (decide (a1 > 8)))))) = some r := h
 clear h
 have HC3 := Q9a.mk H
 clear H
 go_enter Try.func58, Try.ntmps58
 go_upto_region 1 with (fail)
 go_cut [19] (fun v19 wc => ∃ (kq : Nat) (x19_2 : Bool), v19 = .bool x19_2 ∧ Q9a (field_order.j0 kq a0 a1 x19_2 = some r) ∧ Q9a (kq ≤ k) ∧ Drawn0 w wc)
 case first =>
  have H := HC3.out
  clear HC3
  by_cases c4 : a0 < 2
  ·rw [if_pos c4] at H
   have c4b0 : decide (a0 < 2) = true := decide_eq_true c4
   clear c4
   (first | rw [c4b0] | (simp only [i64_w, i32_w]; rw [c4b0]) | skip)
   have H' := Q9a.mk H
   clear H
   go_wp2
   go_meet
   case rel => exact ⟨_, (true), (by first | rfl | (simp; done) | (simp [*]; done)), H', ⟨by first | omega | exact Nat.le_refl _⟩, by repeat (first | exact Drawn0.refl _ | apply Drawn0.step)⟩
  ·rw [if_neg c4] at H
   have c4b0 : decide (a0 < 2) = false := decide_eq_false c4
   clear c4
   (first | rw [c4b0] | (simp only [i64_w, i32_w]; rw [c4b0]) | skip)
   by_cases c5 : a0 > 256
   ·rw [if_pos c5] at H
    have c5b0 : decide (256 < a0) = true := decide_eq_true c5
    clear c5
    have H' := Q9a.mk H
    clear H
    go_wp2
    go_meet
    case rel => exact ⟨_, (true), (by first | rfl | (simp; done) | (simp [*]; done)), H', ⟨by first | omega | exact Nat.le_refl _⟩, by repeat (first | exact Drawn0.refl _ | apply Drawn0.step)⟩
   ·rw [if_neg c5] at H
    have c5b0 : decide (256 < a0) = false := decide_eq_false c5
    clear c5
    by_cases c6 : a1 < 1
    ·rw [if_pos c6] at H
     have c6b0 : decide (a1 < 1) = true := decide_eq_true c6
     clear c6
     have H' := Q9a.mk H
     clear H
     go_wp2
     go_meet
     case rel => exact ⟨_, (true), (by first | rfl | (simp; done) | (simp [*]; done)), H', ⟨by first | omega | exact Nat.le_refl _⟩, by repeat (first | exact Drawn0.refl _ | apply Drawn0.step)⟩
    ·rw [if_neg c6] at H
     have c6b0 : decide (a1 < 1) = false := decide_eq_false c6
     clear c6
     have H' := Q9a.mk H
     clear H
     go_wp2
     go_meet
     case rel => exact ⟨_, (decide (a1 > 8)), (by first | rfl | (simp; done) | (simp [*]; done)), H', ⟨by first | omega | exact Nat.le_refl _⟩, by repeat (first | exact Drawn0.refl _ | apply Drawn0.step)⟩
 case rest =>
  clear HC3
  try clear p2
  try clear c4
  try clear c4b0
  try clear c5
  try clear c5b0
  try clear c6
  try clear c6b0
  obtain ⟨kq, x19_2, rfl, HA, HJ2, ⟨mc2, rfl⟩⟩ := hcut
  cases kq with
  | zero => exact absurd HA.out (by simp [field_order.j0])
  | succ kj2 =>
   have H := HA.out
   clear HA
   simp only [field_order.j0] at H
   by_cases c7 : x19_2 = true
   ·subst c7
    have H1 : (some 0) = some r := by rw [if_pos rfl] at H; exact H
    clear H
    have H := H1
    clear H1
    obtain rfl := Option.some.inj H
    go_wp2
    go_ret
    exact ⟨by first | rfl | (simp; done) | (simp [*]; done), by repeat (first | exact Drawn0.refl _ | apply Drawn0.step)⟩
   ·replace c7 := Bool.eq_false_iff.mpr c7
    subst c7
    have H1 : (field_order.l0 kj2 a0 1 a1 0) = some r := by rw [if_neg (show ¬ (false = true) by decide)] at H; exact H
    clear H
    have H := H1
    clear H1
    have H' := Q9a.mk H
    clear H
    go_wp2
    go_loopg [5, 21] kj2 (fun kq v5 v21 w' => ∃ (x5_2 : Int) (x21_2 : Int), v5 = .int .i64 x5_2 ∧ v21 = .int .i64 x21_2 ∧ Q9a (field_order.l0 kq a0 x5_2 a1 x21_2 = some r) ∧ Q9a (kq ≤ kj2) ∧ Drawn0 w w')
    case atStart => exact ⟨(1), (0), (by first | rfl | (simp; done) | (simp [*]; done)), (by first | rfl | (simp; done) | (simp [*]; done)), H', ⟨Nat.le_refl _⟩, by repeat (first | exact Drawn0.refl _ | apply Drawn0.step)⟩
    case round =>
     clear H'
     try clear c2
     try clear p2
     try clear c4
     try clear c4b0
     try clear c5
     try clear c5b0
     try clear c6
     try clear c6b0
     try clear c7
     try clear p2
     obtain ⟨x5_2, x21_2, rfl, rfl, HA, HK2, ⟨m2, rfl⟩⟩ := hrel
     cases gk with
     | zero => exact absurd HA.out (by simp [field_order.l0])
     | succ k2 =>
      have H := HA.out
      clear HA
      simp only [field_order.l0] at H
      by_cases c8 : x21_2 < a1
      ·rw [if_pos c8] at H
       have c8b0 : decide (x21_2 < a1) = true := decide_eq_true c8
       clear c8
       by_cases c9 : (wrap64 (x5_2 * a0)) > 256
       ·rw [if_pos c9] at H
        have c9b0 : decide (256 < (wrap64 (x5_2 * a0))) = true := decide_eq_true c9
        clear c9
        obtain rfl := Option.some.inj H
        go_wp2
        go_ret
        exact ⟨by first | rfl | (simp; done) | (simp [*]; done), by repeat (first | exact Drawn0.refl _ | apply Drawn0.step)⟩
       ·rw [if_neg c9] at H
        have c9b0 : decide (256 < (wrap64 (x5_2 * a0))) = false := decide_eq_false c9
        clear c9
        have H' := Q9a.mk H
        clear H
        go_wp2
        go_roundg k2
        case measure => have := HJ2.out; have := HK2.out; omega
        case rel => exact ⟨(wrap64 (x5_2 * a0)), (wrap64 (x21_2 + 1)), (by first | rfl | (simp; done) | (simp [*]; done)), (by first | rfl | (simp; done) | (simp [*]; done)), H', ⟨by have := HJ2.out; have := HK2.out; omega⟩, by repeat (first | exact Drawn0.refl _ | apply Drawn0.step)⟩
      ·rw [if_neg c8] at H
       have c8b0 : decide (x21_2 < a1) = false := decide_eq_false c8
       clear c8
       obtain rfl := Option.some.inj H
       go_wp2
       go_ret
       exact ⟨by first | rfl | (simp; done) | (simp [*]; done), by repeat (first | exact Drawn0.refl _ | apply Drawn0.step)⟩
def field_isPrime.l0 : Nat → Int → Int → Option (Bool)
 | 0, _, _ => none
 | k + 1, x0, x3 => if (wrap64 (x3 * x3)) ≤ x0 then (if x3 = 0 then (none) else (if (Int.tmod x0 x3) = 0 then (some false) else (field_isPrime.l0 k x0 (wrap64 (x3 + 1))))) else (some (decide (x0 ≥ 2)))
def field_isPrime.f (k : Nat) (a0 : Int) : Option (Bool) := field_isPrime.l0 k a0 2
set_option maxHeartbeats 8000000 in
set_option maxRecDepth 100000 in
theorem field_isPrime.calls (k : Nat) (a0 : Int) (r : Bool) (w : World) (h : field_isPrime.f k a0 = some r) :
  Calls Try.prog 65 #[.int .i64 a0] w fun e w' => e = .returned (.bool r) ∧ Drawn0 w w' := by
 have H : (field_isPrime.l0 k a0 2) = some r := h
 clear h
 have H' := Q9a.mk H
 clear H
 go_enter Try.func65, Try.ntmps65
 go_wp2
 go_loopg [3] k (fun kq v3 w' => ∃ (x3_1 : Int), v3 = .int .i64 x3_1 ∧ Q9a (field_isPrime.l0 kq a0 x3_1 = some r) ∧ Q9a (kq ≤ k) ∧ Drawn0 w w')
 case atStart => exact ⟨(2), (by first | rfl | (simp; done) | (simp [*]; done)), H', ⟨Nat.le_refl _⟩, by repeat (first | exact Drawn0.refl _ | apply Drawn0.step)⟩
 case round =>
  clear H'
  obtain ⟨x3_1, rfl, HA, HK1, ⟨m1, rfl⟩⟩ := hrel
  cases gk with
  | zero => exact absurd HA.out (by simp [field_isPrime.l0])
  | succ k1 =>
   have H := HA.out
   clear HA
   simp only [field_isPrime.l0] at H
   by_cases c2 : (wrap64 (x3_1 * x3_1)) ≤ a0
   ·rw [if_pos c2] at H
    have c2b0 : decide ((wrap64 (x3_1 * x3_1)) ≤ a0) = true := decide_eq_true c2
    clear c2
    by_cases c3 : x3_1 = 0
    ·rw [if_pos c3] at H
     exact absurd H (by simp)
    ·rw [if_neg c3] at H
     have c3b0 : (x3_1 == 0) = false := beq_eq_false_iff_ne.mpr c3
     have c3b1 : (x3_1 != 0) = true := bne_iff_ne.mpr c3
     by_cases c4 : (Int.tmod a0 x3_1) = 0
     ·rw [if_pos c4] at H
      have c4b0 : ((Int.tmod a0 x3_1) == 0) = true := beq_iff_eq.mpr c4
      have c4b1 : ((Int.tmod a0 x3_1) != 0) = false := bne_eq_false_iff_eq.mpr c4
      clear c4
      obtain rfl := Option.some.inj H
      go_wp2
      go_ret
      exact ⟨by first | rfl | (simp; done) | (simp [*]; done), by repeat (first | exact Drawn0.refl _ | apply Drawn0.step)⟩
     ·rw [if_neg c4] at H
      have c4b0 : ((Int.tmod a0 x3_1) == 0) = false := beq_eq_false_iff_ne.mpr c4
      have c4b1 : ((Int.tmod a0 x3_1) != 0) = true := bne_iff_ne.mpr c4
      have H' := Q9a.mk H
      clear H
      go_wp2
      go_roundg k1
      case measure => have := HK1.out; omega
      case rel => exact ⟨(wrap64 (x3_1 + 1)), (by first | rfl | (simp; done) | (simp [*]; done)), H', ⟨by have := HK1.out; omega⟩, by repeat (first | exact Drawn0.refl _ | apply Drawn0.step)⟩
   ·rw [if_neg c2] at H
    have c2b0 : decide ((wrap64 (x3_1 * x3_1)) ≤ a0) = false := decide_eq_false c2
    clear c2
    obtain rfl := Option.some.inj H
    go_wp2
    go_ret
    exact ⟨by first | rfl | (simp; done) | (simp [*]; done), by repeat (first | exact Drawn0.refl _ | apply Drawn0.step)⟩
mutual
def field_shape.j0 : Nat → Bool → Int → Int → List Int → Option (Bool)
 | 0, _, _, _, _ => none
 | k + 1, x16, x102000, x102001, x102002 => if x16 = true then (some false) else (if x102001 = 1 then (some ((x102002.length : Int) == 0)) else (if (x102002.length : Int) = x102001 then (field_shape.l0 k x102002 (x102002.length : Int) 0 x102000 x102001 x102002) else (some false)))
def field_shape.l0 : Nat → List Int → Int → Int → Int → Int → List Int → Option (Bool)
 | 0, _, _, _, _, _, _ => none
 | k + 1, x31, x32, x33, x102000, x102001, x102002 => if x33 < x32 then (if 0 ≤ x33 then (if x33 < (x31.length : Int) then (if (rd x31 x33) < 0 then (some false) else (if (rd x31 x33) ≥ x102000 then (some false) else (field_shape.l0 k x31 x32 (wrap64 (x33 + 1)) x102000 x102001 x102002))) else (none)) else (none)) else (some true)
end
def field_shape.f (k : Nat) (a0_0 : Int) (a0_1 : Int) (l0_2 : List Int) : Option (Bool) := (field_order.f k a0_0 a0_1).bind fun t102 => (if t102 = 0 then (field_shape.j0 k true a0_0 a0_1 l0_2) else ((field_isPrime.f k a0_0).bind fun t103 => (field_shape.j0 k (!t103) a0_0 a0_1 l0_2)))
set_option maxHeartbeats 8000000 in
set_option maxRecDepth 100000 in
theorem field_shape.calls (k : Nat) (a0_0 : Int) (a0_1 : Int) (A0_2 : Option Addr) (c0_2 : Nat) (l0_2 : List Int) (r : Bool) (w : World) (hr0_2 : Kd.C (Kd.int .i64) w A0_2 l0_2.length l0_2) (hc0_2 : l0_2.length ≤ c0_2) (h : field_shape.f k a0_0 a0_1 l0_2 = some r) :
  Calls Try.prog 57 #[.agg #[.int .i64 a0_0, .int .i64 a0_1, .slice A0_2 l0_2.length c0_2]] w fun e w' => e = .returned (.bool r) ∧ Below w.heap.size w w' := by
 have hu24 := Try.underlying24
 have HR0_2 := Q9a.mk hr0_2
 have HC0_2 := Q9a.mk hc0_2
 clear hr0_2 hc0_2
 have HB := Q9a.mk (Below.refl w.heap.size w)
 have H : ((field_order.f k a0_0 a0_1).bind fun t102 => (if t102 = 0 then (field_shape.j0 k true a0_0 a0_1 l0_2) else ((field_isPrime.f k a0_0).bind fun t103 => (field_shape.j0 k (!t103) a0_0 a0_1 l0_2)))) = some r := h
 clear h
 have HC2 := Q9a.mk H
 clear H
 go_enter Try.func57, Try.ntmps57
 go_upto_region 1 with (first | ((with_reducible refine gate_dst (N := 1) rfl ?_); refine box_event ?hg (N := 1) ?hd (cs := #[.int .i64 a0_0, .int .i64 a0_1, .slice A0_2 l0_2.length c0_2]) (t := 24) ?hr ?_; (case hd => rfl); (case hg => rfl); (case hr => first | (go_simp; done) | (go_simp; rfl)); intro gb101 hg w3 hbox hb; have n0_ := Q9a.mk (bP (by repeat (first | (with_reducible first | exact HB.out | apply bA | apply bN | apply bD) | exact HB.out)) hb); have n1_ := Q9a.mk (hbox); have n2_ := Q9a.mk ((by rw [hg]; exact (bZ (by repeat (first | (with_reducible first | exact HB.out | apply bA | apply bN | apply bD) | exact HB.out))) : w.heap.size ≤ gb101)); have n3_ := Q9a.mk ((by rw [hg]; exact (bZ (by repeat (first | (with_reducible first | exact HB.out | apply bA | apply bN | apply bD) | exact HB.out))) : w.heap.size ≤ gb101)); clear HB; have HB := n0_; have BK101 := n1_; have GW101 := n2_; have GE101 := n3_; clear n0_ n1_ n2_ n3_; clear hb hbox hg))
 (try simp only [Act.put, sz1, sz2, sz3])
 go_cut [16] (fun v16 wc => ∃ (kq : Nat) (x16_1 : Bool), v16 = .bool x16_1 ∧ Q9a (field_shape.j0 kq x16_1 a0_0 a0_1 l0_2 = some r) ∧ Q9a (kq ≤ k) ∧ Q9a (wc.heap[gb101]? = some (.cells #[.int .i64 a0_0, .int .i64 a0_1, (.slice A0_2 l0_2.length c0_2)] 24 (0, 0))) ∧ Q9a (Below w.heap.size w wc))
 case first =>
  have H := HC2.out
  clear HC2
  replace H := Option.bind_eq_some_iff.mp H
  obtain ⟨t102, A40, H⟩ := H
  replace H : (if t102 = 0 then (field_shape.j0 k true a0_0 a0_1 l0_2) else ((field_isPrime.f k a0_0).bind fun t103 => (field_shape.j0 k (!t103) a0_0 a0_1 l0_2))) = some r := H
  have A4 := Q9a.mk A40
  clear A40
  by_cases c5 : t102 = 0
  ·rw [if_pos c5] at H
   have c5b0 : (t102 == 0) = true := beq_iff_eq.mpr c5
   have c5b1 : (t102 != 0) = false := bne_eq_false_iff_eq.mpr c5
   clear c5
   (first | rw [c5b0] | (simp only [i64_w, i32_w]; rw [c5b0]) | skip)
   have H' := Q9a.mk H
   clear H
   have hcz6_0 : w3.cell? ⟨gb101, 0, none⟩ = some (.int .i64 a0_0) := (kC BK101.out 0).trans rfl
   have hcz6_1 : w3.cell? ⟨gb101, 1, none⟩ = some (.int .i64 a0_1) := (kC BK101.out 1).trans rfl
   have hcz6_2 : w3.cell? ⟨gb101, 2, none⟩ = some (.slice A0_2 l0_2.length c0_2) := (kC BK101.out 2).trans rfl
   have hfz6_0 := kF BK101.out 0
   have hfz6_1 := kF BK101.out 1
   have hfz6_2 := kF BK101.out 2
   go_wp2_with (first | ((with_reducible refine gate_callee (f := 58) rfl ?_); refine goesL_ (some 9) rfl rfl Try.func58 (by kernel_rfl) rfl #[.int .i64 a0_0, .int .i64 a0_1] rfl (by (try simp only [List.map_toArray, List.map_cons, List.map_nil]); first | done | rfl | (simp only [List.length_drop, List.length_take]; rfl)) ?_; (with_reducible refine (field_order.calls k a0_0 a0_1 t102 _ A4.out).mono ?_); rintro e w' ⟨rfl, ⟨nd, rfl⟩⟩; refine ⟨_, rfl, ?_⟩))
   go_meet
   case rel => exact ⟨_, (true), (by first | rfl | (simp; done) | (simp [*]; done)), H', ⟨by first | omega | exact Nat.le_refl _⟩, ⟨by (with_reducible repeat (first | refine kN ?_ _ | refine kD ?_ | refine kA ?_ _)); exact BK101.out⟩, ⟨by repeat (first | (with_reducible first | exact HB.out | apply bA | apply bN | apply bD | refine bS ?_ GE101.out) | exact HB.out)⟩⟩
  ·rw [if_neg c5] at H
   have c5b0 : (t102 == 0) = false := beq_eq_false_iff_ne.mpr c5
   have c5b1 : (t102 != 0) = true := bne_iff_ne.mpr c5
   (first | rw [c5b0] | (simp only [i64_w, i32_w]; rw [c5b0]) | skip)
   replace H := Option.bind_eq_some_iff.mp H
   obtain ⟨t103, A70, H⟩ := H
   replace H : (field_shape.j0 k (!t103) a0_0 a0_1 l0_2) = some r := H
   have A7 := Q9a.mk A70
   clear A70
   have H' := Q9a.mk H
   clear H
   have hcz8_0 : w3.cell? ⟨gb101, 0, none⟩ = some (.int .i64 a0_0) := (kC BK101.out 0).trans rfl
   have hcz8_1 : w3.cell? ⟨gb101, 1, none⟩ = some (.int .i64 a0_1) := (kC BK101.out 1).trans rfl
   have hcz8_2 : w3.cell? ⟨gb101, 2, none⟩ = some (.slice A0_2 l0_2.length c0_2) := (kC BK101.out 2).trans rfl
   have hfz8_0 := kF BK101.out 0
   have hfz8_1 := kF BK101.out 1
   have hfz8_2 := kF BK101.out 2
   go_wp2_with (first | ((with_reducible refine gate_callee (f := 58) rfl ?_); refine goesL_ (some 9) rfl rfl Try.func58 (by kernel_rfl) rfl #[.int .i64 a0_0, .int .i64 a0_1] rfl (by (try simp only [List.map_toArray, List.map_cons, List.map_nil]); first | done | rfl | (simp only [List.length_drop, List.length_take]; rfl)) ?_; (with_reducible refine (field_order.calls k a0_0 a0_1 t102 _ A4.out).mono ?_); rintro e w' ⟨rfl, ⟨nd, rfl⟩⟩; refine ⟨_, rfl, ?_⟩) | (go_at_call 65; (with_reducible refine (field_isPrime.calls k a0_0 t103 _ A7.out).mono ?_); rintro e w' ⟨rfl, ⟨nd, rfl⟩⟩))
   go_meet
   case rel => exact ⟨_, (!t103), (by first | rfl | (simp; done) | (simp [*]; done)), H', ⟨by first | omega | exact Nat.le_refl _⟩, ⟨by (with_reducible repeat (first | refine kN ?_ _ | refine kD ?_ | refine kA ?_ _)); exact BK101.out⟩, ⟨by repeat (first | (with_reducible first | exact HB.out | apply bA | apply bN | apply bD | refine bS ?_ GE101.out) | exact HB.out)⟩⟩
 case rest =>
  clear HC2
  try clear p2
  try clear c5
  try clear c5b0
  try clear c5b1
  try clear hcz6_0
  try clear hcz6_1
  try clear hcz6_2
  try clear hcz8_0
  try clear hcz8_1
  try clear hcz8_2
  try clear hfz6_0
  try clear hfz6_1
  try clear hfz6_2
  try clear hfz8_0
  try clear hfz8_1
  try clear hfz8_2
  obtain ⟨kq, x16_1, rfl, HA, HJ1, BK101, HB⟩ := hcut
  cases kq with
  | zero => exact absurd HA.out (by simp [field_shape.j0])
  | succ kj1 =>
   have H := HA.out
   clear HA
   simp only [field_shape.j0] at H
   by_cases c9 : x16_1 = true
   ·subst c9
    have H1 : (some false) = some r := by rw [if_pos rfl] at H; exact H
    clear H
    have H := H1
    clear H1
    obtain rfl := Option.some.inj H
    go_wp2
    go_ret
    exact ⟨by first | rfl | (simp [eN, eS] <;> rfl) | (simp [*, eN, eS] <;> rfl), by repeat (first | (with_reducible first | exact HB.out | apply bA | apply bN | apply bD | refine bS ?_ GE101.out) | exact HB.out)⟩
   ·replace c9 := Bool.eq_false_iff.mpr c9
    subst c9
    have H1 : (if a0_1 = 1 then (some ((l0_2.length : Int) == 0)) else (if (l0_2.length : Int) = a0_1 then (field_shape.l0 kj1 l0_2 (l0_2.length : Int) 0 a0_0 a0_1 l0_2) else (some false))) = some r := by rw [if_neg (show ¬ (false = true) by decide)] at H; exact H
    clear H
    have H := H1
    clear H1
    by_cases c10 : a0_1 = 1
    ·rw [if_pos c10] at H
     have c10b0 : (a0_1 == 1) = true := beq_iff_eq.mpr c10
     have c10b1 : (a0_1 != 1) = false := bne_eq_false_iff_eq.mpr c10
     clear c10
     obtain rfl := Option.some.inj H
     have hcz11_0 : wc.cell? ⟨gb101, 0, none⟩ = some (.int .i64 a0_0) := (kC BK101.out 0).trans rfl
     have hcz11_1 : wc.cell? ⟨gb101, 1, none⟩ = some (.int .i64 a0_1) := (kC BK101.out 1).trans rfl
     have hcz11_2 : wc.cell? ⟨gb101, 2, none⟩ = some (.slice A0_2 l0_2.length c0_2) := (kC BK101.out 2).trans rfl
     have hfz11_0 := kF BK101.out 0
     have hfz11_1 := kF BK101.out 1
     have hfz11_2 := kF BK101.out 2
     go_wp2
     go_ret
     exact ⟨by first | rfl | (simp [eN, eS] <;> rfl) | (simp [*, eN, eS] <;> rfl), by repeat (first | (with_reducible first | exact HB.out | apply bA | apply bN | apply bD | refine bS ?_ GE101.out) | exact HB.out)⟩
    ·rw [if_neg c10] at H
     have c10b0 : (a0_1 == 1) = false := beq_eq_false_iff_ne.mpr c10
     have c10b1 : (a0_1 != 1) = true := bne_iff_ne.mpr c10
     by_cases c12 : (l0_2.length : Int) = a0_1
     ·rw [if_pos c12] at H
      have c12b0 : ((l0_2.length : Int) == a0_1) = true := beq_iff_eq.mpr c12
      have c12b1 : ((l0_2.length : Int) != a0_1) = false := bne_eq_false_iff_eq.mpr c12
      clear c12
      have H' := Q9a.mk H
      clear H
      have hcz13_0 : wc.cell? ⟨gb101, 0, none⟩ = some (.int .i64 a0_0) := (kC BK101.out 0).trans rfl
      have hcz13_1 : wc.cell? ⟨gb101, 1, none⟩ = some (.int .i64 a0_1) := (kC BK101.out 1).trans rfl
      have hcz13_2 : wc.cell? ⟨gb101, 2, none⟩ = some (.slice A0_2 l0_2.length c0_2) := (kC BK101.out 2).trans rfl
      have hfz13_0 := kF BK101.out 0
      have hfz13_1 := kF BK101.out 1
      have hfz13_2 := kF BK101.out 2
      go_wp2
      go_loopg [33] kj1 (fun kq v33 w' => ∃ (x33_2 : Int), v33 = .int .i64 x33_2 ∧ Q9a (field_shape.l0 kq l0_2 (l0_2.length : Int) x33_2 a0_0 a0_1 l0_2 = some r) ∧ Q9a (kq ≤ kj1) ∧ Q9a (w'.heap[gb101]? = some (.cells #[.int .i64 a0_0, .int .i64 a0_1, (.slice A0_2 l0_2.length c0_2)] 24 (0, 0))) ∧ Q9a (Below w.heap.size w w'))
      case atStart => exact ⟨(0), (by first | rfl | (simp; done) | (simp [*]; done)), H', ⟨Nat.le_refl _⟩, ⟨by (with_reducible repeat (first | refine kN ?_ _ | refine kD ?_ | refine kA ?_ _)); exact BK101.out⟩, ⟨by repeat (first | (with_reducible first | exact HB.out | apply bA | apply bN | apply bD | refine bS ?_ GE101.out) | exact HB.out)⟩⟩
      case round =>
       clear H'
       try clear c1
       try clear p2
       try clear c5
       try clear c5b0
       try clear c5b1
       try clear c9
       try clear c10
       try clear c10b0
       try clear c10b1
       try clear c12
       try clear c12b0
       try clear c12b1
       try clear hcz11_0
       try clear hcz11_1
       try clear hcz11_2
       try clear hcz13_0
       try clear hcz13_1
       try clear hcz13_2
       try clear hcz6_0
       try clear hcz6_1
       try clear hcz6_2
       try clear hcz8_0
       try clear hcz8_1
       try clear hcz8_2
       try clear hfz11_0
       try clear hfz11_1
       try clear hfz11_2
       try clear hfz13_0
       try clear hfz13_1
       try clear hfz13_2
       try clear hfz6_0
       try clear hfz6_1
       try clear hfz6_2
       try clear hfz8_0
       try clear hfz8_1
       try clear hfz8_2
       try clear p2
       obtain ⟨x33_2, rfl, HA, HK2, BK101, HB⟩ := hrel
       cases gk with
       | zero => exact absurd HA.out (by simp [field_shape.l0])
       | succ k2 =>
        have H := HA.out
        clear HA
        simp only [field_shape.l0] at H
        by_cases c14 : x33_2 < (l0_2.length : Int)
        ·rw [if_pos c14] at H
         have c14b0 : decide (x33_2 < (l0_2.length : Int)) = true := decide_eq_true c14
         clear c14
         by_cases c15 : 0 ≤ x33_2
         ·rw [if_pos c15] at H
          have c15b0 : decide (0 ≤ x33_2) = true := decide_eq_true c15
          clear c15
          by_cases c16 : x33_2 < (l0_2.length : Int)
          ·rw [if_pos c16] at H
           have c16b0 : decide (x33_2 < (l0_2.length : Int)) = true := decide_eq_true c16
           clear c16
           by_cases c17 : (rd l0_2 x33_2) < 0
           ·rw [if_pos c17] at H
            have c17b0 : decide ((rd l0_2 x33_2) < 0) = true := decide_eq_true c17
            clear c17
            obtain rfl := Option.some.inj H
            have p104 : 0 ≤ (x33_2 : Int) := of_decide_eq_true (by first | (with_reducible assumption) | assumption)
            have q104 : x33_2 < (l0_2.length : Int) := of_decide_eq_true (by first | (with_reducible assumption) | assumption)
            obtain ⟨ad104, e104, hx104_0⟩ := Kd.at_int HR0_2.out x33_2 p104 q104
            cases e104
            replace hx104_0 := (HB.out.cell (World.block_lt_of_cell? w _ hx104_0)).trans hx104_0
            replace p104 := eq_true p104
            replace q104 := eq_true q104
            go_wp2
            go_ret
            exact ⟨by first | rfl | (simp [eN, eS] <;> rfl) | (simp [*, eN, eS] <;> rfl), by repeat (first | (with_reducible first | exact HB.out | apply bA | apply bN | apply bD | refine bS ?_ GE101.out) | exact HB.out)⟩
           ·rw [if_neg c17] at H
            have c17b0 : decide ((rd l0_2 x33_2) < 0) = false := decide_eq_false c17
            clear c17
            by_cases c18 : (rd l0_2 x33_2) ≥ a0_0
            ·rw [if_pos c18] at H
             have c18b0 : decide (a0_0 ≤ (rd l0_2 x33_2)) = true := decide_eq_true c18
             clear c18
             obtain rfl := Option.some.inj H
             have p104 : 0 ≤ (x33_2 : Int) := of_decide_eq_true (by first | (with_reducible assumption) | assumption)
             have q104 : x33_2 < (l0_2.length : Int) := of_decide_eq_true (by first | (with_reducible assumption) | assumption)
             obtain ⟨ad104, e104, hx104_0⟩ := Kd.at_int HR0_2.out x33_2 p104 q104
             cases e104
             replace hx104_0 := (HB.out.cell (World.block_lt_of_cell? w _ hx104_0)).trans hx104_0
             replace p104 := eq_true p104
             replace q104 := eq_true q104
             have hcz19_0 : wr.cell? ⟨gb101, 0, none⟩ = some (.int .i64 a0_0) := (kC BK101.out 0).trans rfl
             have hcz19_1 : wr.cell? ⟨gb101, 1, none⟩ = some (.int .i64 a0_1) := (kC BK101.out 1).trans rfl
             have hcz19_2 : wr.cell? ⟨gb101, 2, none⟩ = some (.slice (some ad104) l0_2.length c0_2) := (kC BK101.out 2).trans rfl
             have hfz19_0 := kF BK101.out 0
             have hfz19_1 := kF BK101.out 1
             have hfz19_2 := kF BK101.out 2
             go_wp2
             go_ret
             exact ⟨by first | rfl | (simp [eN, eS] <;> rfl) | (simp [*, eN, eS] <;> rfl), by repeat (first | (with_reducible first | exact HB.out | apply bA | apply bN | apply bD | refine bS ?_ GE101.out) | exact HB.out)⟩
            ·rw [if_neg c18] at H
             have c18b0 : decide (a0_0 ≤ (rd l0_2 x33_2)) = false := decide_eq_false c18
             clear c18
             have H' := Q9a.mk H
             clear H
             have p104 : 0 ≤ (x33_2 : Int) := of_decide_eq_true (by first | (with_reducible assumption) | assumption)
             have q104 : x33_2 < (l0_2.length : Int) := of_decide_eq_true (by first | (with_reducible assumption) | assumption)
             obtain ⟨ad104, e104, hx104_0⟩ := Kd.at_int HR0_2.out x33_2 p104 q104
             cases e104
             replace hx104_0 := (HB.out.cell (World.block_lt_of_cell? w _ hx104_0)).trans hx104_0
             replace p104 := eq_true p104
             replace q104 := eq_true q104
             have hcz20_0 : wr.cell? ⟨gb101, 0, none⟩ = some (.int .i64 a0_0) := (kC BK101.out 0).trans rfl
             have hcz20_1 : wr.cell? ⟨gb101, 1, none⟩ = some (.int .i64 a0_1) := (kC BK101.out 1).trans rfl
             have hcz20_2 : wr.cell? ⟨gb101, 2, none⟩ = some (.slice (some ad104) l0_2.length c0_2) := (kC BK101.out 2).trans rfl
             have hfz20_0 := kF BK101.out 0
             have hfz20_1 := kF BK101.out 1
             have hfz20_2 := kF BK101.out 2
             go_wp2
             go_roundg k2
             case measure => have := HJ1.out; have := HK2.out; omega
             case rel => exact ⟨(wrap64 (x33_2 + 1)), (by first | rfl | (simp; done) | (simp [*]; done)), H', ⟨by have := HJ1.out; have := HK2.out; omega⟩, ⟨by (with_reducible repeat (first | refine kN ?_ _ | refine kD ?_ | refine kA ?_ _)); exact BK101.out⟩, ⟨by repeat (first | (with_reducible first | exact HB.out | apply bA | apply bN | apply bD | refine bS ?_ GE101.out) | exact HB.out)⟩⟩
          ·rw [if_neg c16] at H
           exact absurd H (by simp)
         ·rw [if_neg c15] at H
          exact absurd H (by simp)
        ·rw [if_neg c14] at H
         have c14b0 : decide (x33_2 < (l0_2.length : Int)) = false := decide_eq_false c14
         clear c14
         obtain rfl := Option.some.inj H
         go_wp2
         go_ret
         exact ⟨by first | rfl | (simp [eN, eS] <;> rfl) | (simp [*, eN, eS] <;> rfl), by repeat (first | (with_reducible first | exact HB.out | apply bA | apply bN | apply bD | refine bS ?_ GE101.out) | exact HB.out)⟩
     ·rw [if_neg c12] at H
      have c12b0 : ((l0_2.length : Int) == a0_1) = false := beq_eq_false_iff_ne.mpr c12
      have c12b1 : ((l0_2.length : Int) != a0_1) = true := bne_iff_ne.mpr c12
      obtain rfl := Option.some.inj H
      have hcz21_0 : wc.cell? ⟨gb101, 0, none⟩ = some (.int .i64 a0_0) := (kC BK101.out 0).trans rfl
      have hcz21_1 : wc.cell? ⟨gb101, 1, none⟩ = some (.int .i64 a0_1) := (kC BK101.out 1).trans rfl
      have hcz21_2 : wc.cell? ⟨gb101, 2, none⟩ = some (.slice A0_2 l0_2.length c0_2) := (kC BK101.out 2).trans rfl
      have hfz21_0 := kF BK101.out 0
      have hfz21_1 := kF BK101.out 1
      have hfz21_2 := kF BK101.out 2
      go_wp2
      go_ret
      exact ⟨by first | rfl | (simp [eN, eS] <;> rfl) | (simp [*, eN, eS] <;> rfl), by repeat (first | (with_reducible first | exact HB.out | apply bA | apply bN | apply bD | refine bS ?_ GE101.out) | exact HB.out)⟩
def field_digitsOf.l0 : Nat → Int → Int → List Int → Int → Int → Option (List Int)
 | 0, _, _, _, _, _ => none
 | k + 1, x0, x1, x7, x12, x13 => if x13 < x12 then (if x1 = 0 then (none) else (if 0 ≤ x13 then (if x13 < (x7.length : Int) then (field_digitsOf.l0 k (wrap64 (Int.tdiv x0 x1)) x1 (x7.set (x13 : Int).toNat (Int.tmod x0 x1)) x12 (wrap64 (x13 + 1))) else (none)) else (none))) else (some x7)
def field_digitsOf.f (k : Nat) (a0 : Int) (a1 : Int) (a2 : Int) : Option (List Int) := if 0 ≤ a2 then (if (a2 : Int).toNat ≤ 35184372088832 then ((some (List.replicate (a2 : Int).toNat 0 : List Int)).bind fun y105 => (field_digitsOf.l0 k a0 a1 y105 (y105.length : Int) 0)) else (none)) else (none)
set_option maxHeartbeats 8000000 in
set_option maxRecDepth 100000 in
theorem field_digitsOf.calls (k : Nat) (a0 : Int) (a1 : Int) (a2 : Int) (r : List Int) (w : World) (h : field_digitsOf.f k a0 a1 a2 = some r) :
  Calls Try.prog 71 #[.int .i64 a0, .int .i64 a1, .int .i64 a2] w fun e w' => ∃ v0_ : Value, e = .returned (v0_) ∧ Kd.R (Kd.int .i64) 3 w' w.heap.size (fun _ => True) v0_ r ∧ Below w.heap.size w w' := by
 have HB := Q9a.mk (Below.refl w.heap.size w)
 have H : (if 0 ≤ a2 then (if (a2 : Int).toNat ≤ 35184372088832 then ((some (List.replicate (a2 : Int).toNat 0 : List Int)).bind fun y105 => (field_digitsOf.l0 k a0 a1 y105 (y105.length : Int) 0)) else (none)) else (none)) = some r := h
 clear h
 by_cases c4 : 0 ≤ a2
 ·rw [if_pos c4] at H
  have c4b0 := eq_true c4
  have c4b1 : decide (0 ≤ a2) = true := decide_eq_true c4
  clear c4
  by_cases c5 : (a2 : Int).toNat ≤ 35184372088832
  ·rw [if_pos c5] at H
   have c5b0 := eq_true c5
   have c5b1 : decide ((a2 : Int).toNat ≤ 35184372088832) = true := decide_eq_true c5
   clear c5
   obtain ⟨y105, hy105⟩ : ∃ y_ : List Int, y_ = (List.replicate (a2 : Int).toNat 0) := ⟨_, rfl⟩
   replace H : (field_digitsOf.l0 k a0 a1 y105 (y105.length : Int) 0) = some r := by first | (rw [hy105]; with_reducible exact H) | (have H2_ := (Option.bind_some _ _).symm.trans H; rw [hy105]; with_reducible exact H2_) | (have H2_ := (Option.bind_some _ _).symm.trans H; with_reducible exact H2_) | with_reducible exact H | (rw [hy105]; exact H) | exact H
   have Ny105 := Q9a.mk hy105
   clear hy105
   have H' := Q9a.mk H
   clear H
   go_enter Try.func71, Try.ntmps71
   go_wp2_with (first | ((with_reducible refine gate_dst (N := 10) rfl ?_); refine Kd.R_make (Kd.int .i64) _ 3 rfl (N := 10) rfl 22 _ _ rfl a2 rfl rfl Try.underlying22 (.int .i64 0) 8 info3 rfl (by decide) (by omega) 0 (ok := fun _ => True) (okp := fun _ => True) rfl (fun _ hk => hk) trivial (of_decide_eq_true (by first | (with_reducible assumption) | assumption)) (Nat.le_trans (Nat.mul_le_mul_right _ (of_decide_eq_true (by first | (with_reducible assumption) | assumption) : a2.toNat ≤ 35184372088832)) (by omega)) (Below.refl _ _) (Nat.le_refl _) ?_; intro v106 w6 ho7 hb hg_ hnew_; clear hg_ hnew_; (first | rw [← Ny105.out] at ho7 | (simp only [Int.reduceToNat] at ho7; rw [← Ny105.out] at ho7)); have n0_ := Q9a.mk (Kd.R_lower ho7 (bZ (by repeat (first | (with_reducible first | exact HB.out | apply bA | apply bN | apply bD) | exact HB.out)))); have n1_ := Q9a.mk (bP (by repeat (first | (with_reducible first | exact HB.out | apply bA | apply bN | apply bD) | exact HB.out)) hb); clear HB; have HO107 := n0_; have HB := n1_; clear n0_ n1_; clear hb ho7; obtain ⟨Ao8, co8, eo8⟩ := Kd.R_slice HO107.out; subst eo8))
   go_loopg [0, 13] k (fun kq v0 v13 w' => ∃ (x0_1 : Int) (x7_1 : List Int) (x13_1 : Int), v0 = .int .i64 x0_1 ∧ v13 = .int .i64 x13_1 ∧ Q9a (field_digitsOf.l0 kq x0_1 a1 x7_1 (y105.length : Int) x13_1 = some r) ∧ Q9a (kq ≤ k) ∧ Q9a (Kd.R (Kd.int .i64) 3 w' w.heap.size (fun _ => True) (.slice Ao8 y105.length co8) x7_1) ∧ Q9a (Below w.heap.size w w'))
   case atStart => exact ⟨(a0), (y105), (0), (by first | rfl | (simp; done) | (simp [*]; done)), (by first | rfl | (simp; done) | (simp [*]; done)), H', ⟨Nat.le_refl _⟩, ⟨by (with_reducible repeat (first | apply Kd.R_alloc | apply Kd.R_drewN | apply Kd.R_drew)); exact HO107.out⟩, ⟨by repeat (first | (with_reducible first | exact HB.out | apply bA | apply bN | apply bD) | exact HB.out)⟩⟩
   case round =>
    clear H'
    try clear p2
    try clear c4
    try clear c4b0
    try clear c4b1
    try clear c5
    try clear c5b0
    try clear c5b1
    try clear c7
    obtain ⟨x0_1, x7_1, x13_1, rfl, rfl, HA, HK1, HO_7, HB⟩ := hrel
    have hl7_1 := (Kd.R_reads' HO_7.out).1
    rw [hl7_1] at HO_7
    (try simp only [hl7_1])
    cases gk with
    | zero => exact absurd HA.out (by simp [field_digitsOf.l0])
    | succ k1 =>
     have H := HA.out
     clear HA
     simp only [field_digitsOf.l0] at H
     by_cases c9 : x13_1 < (y105.length : Int)
     ·rw [if_pos c9] at H
      have c9b0 : decide (x13_1 < (y105.length : Int)) = true := decide_eq_true c9
      (try (have c9b0h := c9b0; rw [hl7_1] at c9b0h))
      clear c9
      by_cases c10 : a1 = 0
      ·rw [if_pos c10] at H
       exact absurd H (by simp)
      ·rw [if_neg c10] at H
       have c10b0 : (a1 == 0) = false := beq_eq_false_iff_ne.mpr c10
       have c10b1 : (a1 != 0) = true := bne_iff_ne.mpr c10
       by_cases c11 : 0 ≤ x13_1
       ·rw [if_pos c11] at H
        have c11b0 : decide (0 ≤ x13_1) = true := decide_eq_true c11
        clear c11
        by_cases c12 : x13_1 < (x7_1.length : Int)
        ·rw [if_pos c12] at H
         have c12b0 : decide (x13_1 < (x7_1.length : Int)) = true := decide_eq_true c12
         (try (have c12b0h := c12b0; rw [hl7_1] at c12b0h))
         clear c12
         obtain ⟨y108, hy108⟩ : ∃ y_ : List Int, y_ = (x7_1.set (x13_1 : Int).toNat (Int.tmod x0_1 a1)) := ⟨_, rfl⟩
         replace H : (field_digitsOf.l0 k1 (wrap64 (Int.tdiv x0_1 a1)) a1 y108 (y105.length : Int) (wrap64 (x13_1 + 1))) = some r := by first | (rw [hy108]; with_reducible exact H) | (have H2_ := (Option.bind_some _ _).symm.trans H; rw [hy108]; with_reducible exact H2_) | (have H2_ := (Option.bind_some _ _).symm.trans H; with_reducible exact H2_) | with_reducible exact H | (rw [hy108]; exact H) | exact H
         have Ny108 := Q9a.mk hy108
         clear hy108
         have H' := Q9a.mk H
         clear H
         have p13 : 0 ≤ (x13_1 : Int) := of_decide_eq_true (by first | (with_reducible assumption) | assumption)
         have q13 : (x13_1 : Int) < ((x7_1.length : Int) : Int) := of_decide_eq_true (by first | (with_reducible assumption) | assumption)
         obtain ⟨go13, co13, eo13, gb13, gl13, cl13, HG13⟩ := Kd.R_form HO_7.out (by omega)
         (first | cases eo13 | (injection eo13 with ea_ en_ ec_; (first | subst ea_ | (injection ea_ with ea_; subst ea_)); subst ec_; clear en_))
         have GB13 := Q9a.mk gb13
         have GG13 := Q9a.mk HG13
         clear gb13 gl13 HG13
         obtain ⟨hx13_0, hf13_0⟩ := Kd.R_celln 0 HO_7.out (x13_1 : Int) p13 q13
         replace p13 := eq_true p13
         replace q13 := eq_true q13
         have HP14 := Kd.R_putg HO_7.out (x13_1 : Int) (Int.tmod x0_1 a1)
         go_wp2_with (first | ((with_reducible refine gate_store (t := 3) (p := 21) rfl ?_); refine store_event (t := 3) (p := 21) (v := ?vo_w15) (w1 := (wr.setCell ⟨go13, (x13_1 : Int).toNat, none⟩ (.int .i64 (Int.tmod x0_1 a1)))) ?hg ?ho ?hn ?hr ?_; (case ho => rfl); (case hg => rfl); (case hn => rfl); (case hr => first | (go_simp; done) | (go_simp; rfl)); intro w15 hw; have hg : wr.grownBy w15 (some go13) := (by rw [hw]; exact HP14.2); have hp_ : Kd.R (Kd.int .i64) 3 w15 w.heap.size (fun _ => True) (.slice (some ⟨go13, 0, none⟩) x7_1.length co8) y108 := (by rw [hw, Ny108.out]; exact HP14.1); clear HP14; have n0_ := Q9a.mk (hp_); have n1_ := Q9a.mk ((by rw [hw]; exact bS (HB.out) GB13.out : Below w.heap.size w w15)); clear HO_7; clear HB; have HO_7 := n0_; have HB := n1_; clear n0_ n1_; clear hg hw hp_))
         (try simp only [← hl7_1])
         go_roundg k1
         case measure => have := HK1.out; omega
         case rel => exact ⟨(wrap64 (Int.tdiv x0_1 a1)), (y108), (wrap64 (x13_1 + 1)), (by first | rfl | (simp; done) | (simp [*]; done)), (by first | rfl | (simp; done) | (simp [*]; done)), H', ⟨by have := HK1.out; omega⟩, ⟨by (try simp only [hl7_1]); (with_reducible repeat (first | apply Kd.R_alloc | apply Kd.R_drewN | apply Kd.R_drew)); exact HO_7.out⟩, ⟨by repeat (first | (with_reducible first | exact HB.out | apply bA | apply bN | apply bD) | exact HB.out)⟩⟩
        ·rw [if_neg c12] at H
         exact absurd H (by simp)
       ·rw [if_neg c11] at H
        exact absurd H (by simp)
     ·rw [if_neg c9] at H
      have c9b0 : decide (x13_1 < (y105.length : Int)) = false := decide_eq_false c9
      (try (have c9b0h := c9b0; rw [hl7_1] at c9b0h))
      clear c9
      obtain rfl := Option.some.inj H
      go_wp2
      go_ret
      exact ⟨_, by first | rfl | (simp [eN, eS] <;> rfl) | (simp [*, eN, eS] <;> rfl), by (with_reducible repeat (first | apply Kd.R_alloc | apply Kd.R_drewN | apply Kd.R_drew)); exact HO_7.out, by repeat (first | (with_reducible first | exact HB.out | apply bA | apply bN | apply bD) | exact HB.out)⟩
  ·rw [if_neg c5] at H
   exact absurd H (by simp)
 ·rw [if_neg c4] at H
  exact absurd H (by simp)
def field_valueOf.l0 : Nat → List Int → Int → Int → Int → Option (Int)
 | 0, _, _, _, _ => none
 | k + 1, x0, x1, x5, x6 => if x6 ≥ 0 then (if 0 ≤ x6 then (if x6 < (x0.length : Int) then (field_valueOf.l0 k x0 x1 (wrap64 ((wrap64 (x5 * x1)) + (rd x0 x6))) (wrap64 (x6 - 1))) else (none)) else (none)) else (some x5)
def field_valueOf.f (k : Nat) (l0 : List Int) (a1 : Int) : Option (Int) := field_valueOf.l0 k l0 a1 0 (wrap64 ((l0.length : Int) - 1))
set_option maxHeartbeats 8000000 in
set_option maxRecDepth 100000 in
theorem field_valueOf.calls (k : Nat) (A0 : Option Addr) (c0 : Nat) (l0 : List Int) (a1 : Int) (r : Int) (w : World) (hr0 : Kd.C (Kd.int .i64) w A0 l0.length l0) (hc0 : l0.length ≤ c0) (h : field_valueOf.f k l0 a1 = some r) :
  Calls Try.prog 72 #[.slice A0 l0.length c0, .int .i64 a1] w fun e w' => e = .returned (.int .i64 r) ∧ Drawn0 w w' := by
 have HR0 := Q9a.mk hr0
 have HC0 := Q9a.mk hc0
 clear hr0 hc0
 have H : (field_valueOf.l0 k l0 a1 0 (wrap64 ((l0.length : Int) - 1))) = some r := h
 clear h
 have H' := Q9a.mk H
 clear H
 go_enter Try.func72, Try.ntmps72
 go_wp2
 go_loopg [5, 6] k (fun kq v5 v6 w' => ∃ (x5_1 : Int) (x6_1 : Int), v5 = .int .i64 x5_1 ∧ v6 = .int .i64 x6_1 ∧ Q9a (field_valueOf.l0 kq l0 a1 x5_1 x6_1 = some r) ∧ Q9a (kq ≤ k) ∧ Drawn0 w w')
 case atStart => exact ⟨(0), (wrap64 ((l0.length : Int) - 1)), (by first | rfl | (simp; done) | (simp [*]; done)), (by first | rfl | (simp; done) | (simp [*]; done)), H', ⟨Nat.le_refl _⟩, by repeat (first | exact Drawn0.refl _ | apply Drawn0.step)⟩
 case round =>
  clear H'
  try clear p2
  obtain ⟨x5_1, x6_1, rfl, rfl, HA, HK1, ⟨m1, rfl⟩⟩ := hrel
  cases gk with
  | zero => exact absurd HA.out (by simp [field_valueOf.l0])
  | succ k1 =>
   have H := HA.out
   clear HA
   simp only [field_valueOf.l0] at H
   by_cases c3 : x6_1 ≥ 0
   ·rw [if_pos c3] at H
    have c3b0 : decide (0 ≤ x6_1) = true := decide_eq_true c3
    clear c3
    by_cases c4 : 0 ≤ x6_1
    ·rw [if_pos c4] at H
     have c4b0 : decide (0 ≤ x6_1) = true := decide_eq_true c4
     clear c4
     by_cases c5 : x6_1 < (l0.length : Int)
     ·rw [if_pos c5] at H
      have c5b0 : decide (x6_1 < (l0.length : Int)) = true := decide_eq_true c5
      clear c5
      have H' := Q9a.mk H
      clear H
      have p109 : 0 ≤ (x6_1 : Int) := of_decide_eq_true (by first | (with_reducible assumption) | assumption)
      have q109 : x6_1 < (l0.length : Int) := of_decide_eq_true (by first | (with_reducible assumption) | assumption)
      obtain ⟨ad109, e109, hx109_0⟩ := Kd.at_int HR0.out x6_1 p109 q109
      cases e109
      replace p109 := eq_true p109
      replace q109 := eq_true q109
      go_wp2
      go_roundg k1
      case measure => have := HK1.out; omega
      case rel => exact ⟨(wrap64 ((wrap64 (x5_1 * a1)) + (rd l0 x6_1))), (wrap64 (x6_1 - 1)), (by first | rfl | (simp; done) | (simp [*]; done)), (by first | rfl | (simp; done) | (simp [*]; done)), H', ⟨by have := HK1.out; omega⟩, by repeat (first | exact Drawn0.refl _ | apply Drawn0.step)⟩
     ·rw [if_neg c5] at H
      exact absurd H (by simp)
    ·rw [if_neg c4] at H
     exact absurd H (by simp)
   ·rw [if_neg c3] at H
    have c3b0 : decide (0 ≤ x6_1) = false := decide_eq_false c3
    clear c3
    obtain rfl := Option.some.inj H
    go_wp2
    go_ret
    exact ⟨by first | rfl | (simp; done) | (simp [*]; done), by repeat (first | exact Drawn0.refl _ | apply Drawn0.step)⟩
end
end Go.Proofs.Ytbohbfggmnjpdaa.P
end
-- D1
section
namespace Go.Proofs.Ytbohbfggmnjpdaa.Pl
open Go.RowKit Go.Proofs.Ytbohbfggmnjpdaa.P Go.Proofs.YtbohbfggmnjpdaaW.PrintWords
theorem w64 {n : Int} (h0 : -9223372036854775808 ≤ n) (h1 : n < 9223372036854775808) : wrap64 n = n := by
 unfold wrap64; omega
theorem w64n (n : Nat) (h : n < 9223372036854775808) : wrap64 (n : Int) = n := w64 (by omega) (by omega)
def ordV (P M : Int) : Int := if 2 ≤ P ∧ 1 ≤ M ∧ M ≤ 8 ∧ P.toNat ^ M.toNat ≤ 256 then ((P.toNat ^ M.toNat : Nat) : Int) else 0
theorem pow_le_of {p i m : Nat} (hp : 2 ≤ p) (h : i ≤ m) : p ^ i ≤ p ^ m := Nat.pow_le_pow_right (by omega) h
theorem order_loop (p m : Nat) (hp : 2 ≤ p) (hp2 : p ≤ 256) (hm : m ≤ 8) : ∀ d i, i + d = m → p ^ i ≤ 256 → Ev (fun k => field_order.l0 k (p : Int) ((p ^ i : Nat) : Int) (m : Int) (i : Int)) (if p ^ m ≤ 256 then ((p ^ m : Nat) : Int) else 0) := by
 intro d
 induction d with
 | zero =>
  intro i hi hle
  obtain rfl : i = m := by omega
  rw [if_pos hle]
  refine Ev.step (f := fun _ => some _) (fun k => ?_) (Ev.now _)
  simp only [field_order.l0]
  rw [if_neg (by omega)]
 | succ d ih =>
  intro i hi hle
  have hb : p ^ i * p ≤ 256 * 256 := Nat.mul_le_mul hle hp2
  have hw : wrap64 (((p ^ i : Nat) : Int) * (p : Int)) = ((p ^ (i + 1) : Nat) : Int) := by
   rw [← Int.natCast_mul, ← Nat.pow_succ]
   exact w64n _ (by rw [Nat.pow_succ]; omega)
  have hw2 : wrap64 ((i : Int) + 1) = ((i + 1 : Nat) : Int) := by rw [w64 (by omega) (by omega)]; rfl
  by_cases hc : p ^ (i + 1) ≤ 256
  ·refine Ev.step (fun k => ?_) (ih (i + 1) (by omega) hc)
   simp only [field_order.l0]
   rw [if_pos (by omega), hw, hw2, if_neg (by omega)]
  ·have hmm : ¬ p ^ m ≤ 256 := fun h => hc (Nat.le_trans (pow_le_of hp (by omega)) h)
   rw [if_neg hmm]
   refine Ev.step (f := fun _ => some _) (fun k => ?_) (Ev.now _)
   simp only [field_order.l0]
   rw [if_pos (by omega), hw, if_pos (by omega)]
theorem order_ev (P M : Int) : Ev (fun k => field_order.f k P M) (ordV P M) := by
 have zero : ordV P M = 0 → Ev (fun k => field_order.j0 k P M true) (ordV P M) := by
  intro h
  rw [h]
  refine Ev.step (f := fun _ => some _) (fun k => ?_) (Ev.now _)
  simp only [field_order.j0]
  rfl
 by_cases h1 : P < 2
 ·refine Ev.congr (fun k => ?_) (zero (by unfold ordV; rw [if_neg (by omega)]))
  unfold field_order.f
  rw [if_pos h1]
 by_cases h2 : P > 256
 ·refine Ev.congr (fun k => ?_) (zero ?_)
  ·unfold field_order.f
   rw [if_neg h1, if_pos h2]
  ·unfold ordV
   rw [if_neg]
   rintro ⟨a, b, c, d⟩
   have := pow_le_of (p := P.toNat) (i := 1) (m := M.toNat) (by omega) (by omega)
   rw [Nat.pow_one] at this
   omega
 by_cases h3 : M < 1
 ·refine Ev.congr (fun k => ?_) (zero (by unfold ordV; rw [if_neg (by omega)]))
  unfold field_order.f
  rw [if_neg h1, if_neg h2, if_pos h3]
 by_cases h4 : M > 8
 ·refine Ev.congr (fun k => ?_) (zero (by unfold ordV; rw [if_neg (by omega)]))
  unfold field_order.f
  rw [if_neg h1, if_neg h2, if_neg h3, decide_eq_true h4]
 obtain ⟨p, rfl⟩ := Int.eq_ofNat_of_zero_le (show 0 ≤ P by omega)
 obtain ⟨m, rfl⟩ := Int.eq_ofNat_of_zero_le (show 0 ≤ M by omega)
 have hl := order_loop p m (by omega) (by omega) (by omega) m 0 (by omega) (by simp)
 have e : (if p ^ m ≤ 256 then ((p ^ m : Nat) : Int) else 0) = ordV p m := by
  unfold ordV
  simp only [Int.toNat_natCast]
  by_cases hc : p ^ m ≤ 256
  ·rw [if_pos hc, if_pos ⟨by omega, by omega, by omega, hc⟩]
  ·rw [if_neg hc, if_neg (fun h => hc h.2.2.2)]
 rw [e] at hl
 refine Ev.congr (f := fun k => field_order.j0 k (p : Int) (m : Int) false) (fun k => ?_) ?_
 ·unfold field_order.f
  rw [if_neg h1, if_neg h2, if_neg h3, decide_eq_false h4]
 ·refine Ev.step (fun k => ?_) hl
  simp only [field_order.j0]
  rw [if_neg (by simp)]
  rfl
theorem order04_loop (p m : Nat) (hp : 2 ≤ p) (hm : m ≤ 8) (l : List Int) (hpw : (p : Int) < 9223372036854775808) : ∀ d i, i + d = m → p ^ i ≤ 256 → Ev (fun k => r4Order.l0 k ((p ^ i : Nat) : Int) (i : Int) (p : Int) (m : Int) l) (if p ^ m ≤ 256 then ((p ^ m : Nat) : Int) else 0) := by
 intro d
 induction d with
 | zero =>
  intro i hi hle
  obtain rfl : i = m := by omega
  rw [if_pos hle]
  refine Ev.step (f := fun _ => some _) (fun k => ?_) (Ev.now _)
  simp only [r4Order.l0]
  rw [if_neg (by omega)]
 | succ d ih =>
  intro i hi hle
  have hd : wrap64 (Int.tdiv 256 (p : Int)) = ((256 / p : Nat) : Int) := by
   rw [show (256 : Int) = ((256 : Nat) : Int) from rfl, Cw.tdiv_nat]
   exact w64n _ (by have := Nat.div_le_self 256 p; omega)
  have hw2 : wrap64 ((i : Int) + 1) = ((i + 1 : Nat) : Int) := by rw [w64 (by omega) (by omega)]; rfl
  have hiff : p ^ (i + 1) ≤ 256 ↔ p ^ i ≤ 256 / p := by
   rw [Nat.le_div_iff_mul_le (by omega), Nat.pow_succ]
  by_cases hc : p ^ (i + 1) ≤ 256
  ·have hw : wrap64 (((p ^ i : Nat) : Int) * (p : Int)) = ((p ^ (i + 1) : Nat) : Int) := by
    rw [← Int.natCast_mul, ← Nat.pow_succ]
    exact w64n _ (Nat.lt_of_le_of_lt hc (by omega))
   refine Ev.step (fun k => ?_) (ih (i + 1) (by omega) hc)
   have := hiff.1 hc
   simp only [r4Order.l0]
   rw [if_pos (by omega), if_neg (by omega), hd, if_neg (by omega), hw, hw2]
  ·have hmm : ¬ p ^ m ≤ 256 := fun h => hc (Nat.le_trans (pow_le_of hp (by omega)) h)
   have : ¬ p ^ i ≤ 256 / p := fun h => hc (hiff.2 h)
   rw [if_neg hmm]
   refine Ev.step (f := fun _ => some _) (fun k => ?_) (Ev.now _)
   simp only [r4Order.l0]
   rw [if_pos (by omega), if_neg (by omega), hd, if_pos (by omega)]
theorem order04_ev (P M : Int) (l : List Int) (hP : P < 9223372036854775808) : Ev (fun k => r4Order.f k P M l) (ordV P M) := by
 have zero : ordV P M = 0 → Ev (fun k => r4Order.j0 k true P M l) (ordV P M) := by
  intro h
  rw [h]
  refine Ev.step (f := fun _ => some _) (fun k => ?_) (Ev.now _)
  simp only [r4Order.j0]
  rfl
 by_cases h1 : P < 2
 ·refine Ev.congr (fun k => ?_) (zero (by unfold ordV; rw [if_neg (by omega)]))
  unfold r4Order.f
  rw [if_pos h1]
 by_cases h3 : M < 1
 ·refine Ev.congr (fun k => ?_) (zero (by unfold ordV; rw [if_neg (by omega)]))
  unfold r4Order.f
  rw [if_neg h1, if_pos h3]
 by_cases h4 : M > 8
 ·refine Ev.congr (fun k => ?_) (zero (by unfold ordV; rw [if_neg (by omega)]))
  unfold r4Order.f
  rw [if_neg h1, if_neg h3, decide_eq_true h4]
 obtain ⟨p, rfl⟩ := Int.eq_ofNat_of_zero_le (show 0 ≤ P by omega)
 obtain ⟨m, rfl⟩ := Int.eq_ofNat_of_zero_le (show 0 ≤ M by omega)
 have hl := order04_loop p m (by omega) (by omega) l hP m 0 (by omega) (by simp)
 have e : (if p ^ m ≤ 256 then ((p ^ m : Nat) : Int) else 0) = ordV p m := by
  unfold ordV
  simp only [Int.toNat_natCast]
  by_cases hc : p ^ m ≤ 256
  ·rw [if_pos hc, if_pos ⟨by omega, by omega, by omega, hc⟩]
  ·rw [if_neg hc, if_neg (fun h => hc h.2.2.2)]
 rw [e] at hl
 refine Ev.congr (f := fun k => r4Order.j0 k false (p : Int) (m : Int) l) (fun k => ?_) ?_
 ·unfold r4Order.f
  rw [if_neg h1, if_neg h3, decide_eq_false h4]
 ·refine Ev.step (fun k => ?_) hl
  simp only [r4Order.j0]
  rw [if_neg (by simp)]
  rfl
theorem ordV_pos {P M : Int} (h : ordV P M ≠ 0) : ∃ p m : Nat, P = p ∧ M = m ∧ 2 ≤ p ∧ p ≤ 256 ∧ 1 ≤ m ∧ m ≤ 8 ∧ p ^ m ≤ 256 ∧ ordV P M = ((p ^ m : Nat) : Int) := by
 unfold ordV at h ⊢
 by_cases hc : 2 ≤ P ∧ 1 ≤ M ∧ M ≤ 8 ∧ P.toNat ^ M.toNat ≤ 256
 ·rw [if_pos hc]
  have := pow_le_of (p := P.toNat) (i := 1) (m := M.toNat) (by omega) (by omega)
  rw [Nat.pow_one] at this
  exact ⟨P.toNat, M.toNat, by omega, by omega, by omega, by omega, by omega, by omega, hc.2.2.2, rfl⟩
 ·rw [if_neg hc] at h
  exact absurd rfl h
open Classical in
theorem prime_none {n d : Nat} (h : ∀ e, 2 ≤ e → e < d → ¬ e ∣ n) (hn : 2 ≤ n) (hd : n < d * d) : Cw.Prm n := by
 refine ⟨hn, fun e he => ?_⟩
 obtain ⟨f, hf⟩ := he
 by_cases h1 : e = 1
 ·exact Or.inl h1
 by_cases h2 : e = n
 ·exact Or.inr h2
 exfalso
 have e0 : e ≠ 0 := by rintro rfl; omega
 have f0 : f ≠ 0 := by rintro rfl; omega
 have f1 : f ≠ 1 := by rintro rfl; omega
 have a := h e (by omega)
 have b := h f (by omega)
 have ha : d ≤ e := by
  by_cases hh : d ≤ e
  ·exact hh
  ·exact absurd ⟨f, hf⟩ (a (by omega))
 have hb : d ≤ f := by
  by_cases hh : d ≤ f
  ·exact hh
  ·exact absurd ⟨e, by rw [hf, Nat.mul_comm]⟩ (b (by omega))
 have := Nat.mul_le_mul ha hb
 omega
theorem not_prm {n d : Nat} (hd : 2 ≤ d) (hn : d < n) (h : d ∣ n) : ¬ Cw.Prm n := fun hp => by
 rcases hp.2 d h with h | h <;> omega
open Classical in
theorem isPrime_loop (n : Nat) (hn : n ≤ 65536) (hn2 : 2 ≤ n) : ∀ g d, d + g = 300 → 2 ≤ d → (∀ e, 2 ≤ e → e < d → ¬ e ∣ n) → Ev (fun k => field_isPrime.l0 k (n : Int) (d : Int)) (decide (Cw.Prm n)) := by
 intro g
 induction g with
 | zero =>
  intro d hd h2 h
  obtain rfl : d = 300 := by omega
  refine Ev.step (f := fun _ => some _) (fun k => ?_) (Ev.now _)
  simp only [field_isPrime.l0]
  rw [w64 (by omega) (by omega), if_neg (by omega), decide_eq_true (prime_none h hn2 (by omega)), decide_eq_true (by omega)]
 | succ g ih =>
  intro d hd h2 h
  have hdd : d * d ≤ 300 * 300 := Nat.mul_le_mul (by omega) (by omega)
  have hw : wrap64 ((d : Int) * (d : Int)) = ((d * d : Nat) : Int) := by
   rw [← Int.natCast_mul]
   exact w64n _ (by omega)
  by_cases hc : d * d ≤ n
  ·by_cases hdv : d ∣ n
   ·have hlt : d < n := by
     have : 2 * d ≤ d * d := Nat.mul_le_mul_right _ h2
     omega
    refine Ev.step (f := fun _ => some _) (fun k => ?_) (Ev.now _)
    simp only [field_isPrime.l0]
    rw [hw, if_pos (by omega), if_neg (by omega), Cw.tmod_nat, Nat.mod_eq_zero_of_dvd hdv, if_pos (by rfl), decide_eq_false (not_prm h2 hlt hdv)]
   ·refine Ev.step (fun k => ?_) (ih (d + 1) (by omega) (by omega) (fun e he hlt => by
     by_cases hh : e = d
     ·rw [hh]; exact hdv
     ·exact h e he (by omega)))
    simp only [field_isPrime.l0]
    have : n % d ≠ 0 := fun h0 => hdv (Nat.dvd_of_mod_eq_zero h0)
    rw [hw, if_pos (by omega), if_neg (by omega), Cw.tmod_nat, if_neg (by omega), w64 (by omega) (by omega)]
    rfl
  ·refine Ev.step (f := fun _ => some _) (fun k => ?_) (Ev.now _)
   simp only [field_isPrime.l0]
   rw [hw, if_neg (by omega), decide_eq_true (prime_none h hn2 (by omega)), decide_eq_true (by omega)]
open Classical in
theorem isPrime_ev (n : Nat) (hn : n ≤ 65536) (hn2 : 2 ≤ n) : Ev (fun k => field_isPrime.f k (n : Int)) (decide (Cw.Prm n)) :=
 isPrime_loop n hn hn2 298 2 rfl (by omega) (fun e h1 h2 => by omega)
open Classical in
theorem prime04_loop (n : Nat) (hn : n ≤ 65536) (hn2 : 2 ≤ n) : ∀ g d, d + g = n → 2 ≤ d → (∀ e, 2 ≤ e → e < d → ¬ e ∣ n) → Ev (fun k => r4prime.l0 k (n : Int) (d : Int)) (decide (Cw.Prm n)) := by
 intro g
 induction g with
 | zero =>
  intro d hd h2 h
  obtain rfl : d = n := by omega
  refine Ev.step (f := fun _ => some _) (fun k => ?_) (Ev.now _)
  simp only [r4prime.l0]
  have : 2 * d ≤ d * d := Nat.mul_le_mul_right _ h2
  rw [if_neg (by omega), decide_eq_true (prime_none h hn2 (by omega))]
 | succ g ih =>
  intro d hd h2 h
  by_cases hdv : d ∣ n
  ·refine Ev.step (f := fun _ => some _) (fun k => ?_) (Ev.now _)
   simp only [r4prime.l0]
   rw [if_pos (by omega), if_neg (by omega), Cw.tmod_nat, Nat.mod_eq_zero_of_dvd hdv, if_pos (by rfl), decide_eq_false (not_prm h2 (by omega) hdv)]
  ·refine Ev.step (fun k => ?_) (ih (d + 1) (by omega) (by omega) (fun e he hlt => by
    by_cases hh : e = d
    ·rw [hh]; exact hdv
    ·exact h e he (by omega)))
   simp only [r4prime.l0]
   have : n % d ≠ 0 := fun h0 => hdv (Nat.dvd_of_mod_eq_zero h0)
   rw [if_pos (by omega), if_neg (by omega), Cw.tmod_nat, if_neg (by omega), w64 (by omega) (by omega)]
   rfl
open Classical in
theorem prime04_ev (n : Nat) (hn : n ≤ 65536) (hn2 : 2 ≤ n) : Ev (fun k => r4prime.f k (n : Int)) (decide (Cw.Prm n)) := by
 obtain ⟨g, hg⟩ := Nat.le.dest hn2
 exact prime04_loop n hn hn2 g 2 hg (by omega) (fun e h1 h2 => by omega)
end Go.Proofs.Ytbohbfggmnjpdaa.Pl
end
