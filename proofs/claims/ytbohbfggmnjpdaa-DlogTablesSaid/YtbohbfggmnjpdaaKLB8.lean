/- What dlogTables_holds needs: texts Pb4, put together. -/
import Derived.Test.YtbohbfggmnjpdaaKLB7
set_option linter.unusedVariables false
set_option linter.unusedSimpArgs false
-- Pb4
section
namespace Go.Proofs.Ytbohbfggmnjpdaa.P
noncomputable section
open Go.RowKit Go.Proofs.Ytbohbfggmnjpdaa.Hand Go.Proofs.YtbohbfggmnjpdaaW.PrintWords Go.Proofs.YtbohbfggmnjpdaaW.PrintLast Go.Proofs.YtbohbfggmnjpdaaW.PrintMore
set_option linter.unusedVariables false
set_option linter.unusedSimpArgs false
mutual
def dlog_Order.j0 : Nat → GFv → Int → Bool → Option (Int × List Int × Int)
 | 0, _, _, _ => none
 | k + 1, x0, x1, x18 => if x18 = true then (some (0, ([] : List Int), 7)) else ((field_GF_Order.f x0).bind fun t157 => ((dlog_primes.f k (wrap64 (t157 - 1))).bind fun t158 => (dlog_Order.l0 k x0 x1 (wrap64 (t157 - 1)) t158 (t158.length : Int) 0)))
def dlog_Order.l0 : Nat → GFv → Int → Int → List Int → Int → Int → Option (Int × List Int × Int)
 | 0, _, _, _, _, _, _ => none
 | k + 1, x0, x1, x6, x24, x25, x26 => if x26 < x25 then (if 0 ≤ x26 then (if x26 < (x24.length : Int) then (dlog_Order.l1 k x0 x1 x6 (rd x24 x26) x24 x25 x26) else (none)) else (none)) else ((dlog_primes.f k x6).bind fun t161 => (some (x6, t161, 0)))
def dlog_Order.l1 : Nat → GFv → Int → Int → Int → List Int → Int → Int → Option (Int × List Int × Int)
 | 0, _, _, _, _, _, _, _ => none
 | k + 1, x0, x1, x6, x8, x24, x25, x26 => if x8 = 0 then (none) else (if (Int.tmod x6 x8) = 0 then ((field_GF_Pow.f x0 x1 (wrap64 (Int.tdiv x6 x8))).bind fun bt165 => (if bt165.1 = 1 then (dlog_Order.l1 k x0 x1 (wrap64 (Int.tdiv x6 x8)) x8 x24 x25 x26) else (dlog_Order.l0 k x0 x1 x6 x24 x25 (wrap64 (x26 + 1))))) else (dlog_Order.l0 k x0 x1 x6 x24 x25 (wrap64 (x26 + 1))))
end
def dlog_Order.f (k : Nat) (a0 : GFv) (a1 : Int) : Option (Int × List Int × Int) := (field_GF_Is.f a0 a1).bind fun t156 => (if t156 = true then (dlog_Order.j0 k a0 a1 (a1 == 0)) else (dlog_Order.j0 k a0 a1 true))
set_option maxHeartbeats 8000000 in
set_option maxRecDepth 100000 in
theorem dlog_Order.calls (k : Nat) (b_a0 : Nat) (a0 : GFv) (a1 : Int) (r1 : Int) (r2 : List Int) (r3 : Int) (w : World) (hg0 : GFok w b_a0 a0) (h : dlog_Order.f k a0 a1 = some (r1, r2, r3)) :
  Calls Try.prog 21 #[.pointer (some ⟨b_a0, 0, none⟩), .int .i64 a1] w fun e w' => ∃ v1_ : Value, e = .returned (.tuple #[.agg #[.int .i64 r1, v1_], .int .i64 r3]) ∧ Kd.R (Kd.int .i64) 3 w' w.heap.size (fun _ => True) v1_ r2 ∧ Below w.heap.size w w' := by
 have hu26 := Try.underlying26
 have HG_a0 := Q9a.mk hg0
 clear hg0
 have HB := Q9a.mk (Below.refl w.heap.size w)
 have H : ((field_GF_Is.f a0 a1).bind fun t156 => (if t156 = true then (dlog_Order.j0 k a0 a1 (a1 == 0)) else (dlog_Order.j0 k a0 a1 true))) = some (r1, r2, r3) := h
 clear h
 have HC3 := Q9a.mk H
 clear H
 go_enter Try.func21, Try.ntmps21
 go_upto_region 1 with (first | ((with_reducible refine gate_dst (N := 4) rfl ?_); refine box_event ?hg (N := 4) ?hd (cs := #[.int .i64 0, .slice none 0 0]) (t := 26) ?hr ?_; (case hd => rfl); (case hg => rfl); (case hr => first | (go_simp; done) | (go_simp; rfl)); intro gb155 hg w4 hbox hb; have n0_ := Q9a.mk (bP (by repeat (first | (with_reducible first | exact HB.out | apply bA | apply bN | apply bD) | exact HB.out)) hb); have n1_ := Q9a.mk (hbox); have n2_ := Q9a.mk ((by rw [hg]; exact (bZ (by repeat (first | (with_reducible first | exact HB.out | apply bA | apply bN | apply bD) | exact HB.out))) : w.heap.size ≤ gb155)); have n3_ := Q9a.mk ((by rw [hg]; exact (bZ (by repeat (first | (with_reducible first | exact HB.out | apply bA | apply bN | apply bD) | exact HB.out))) : w.heap.size ≤ gb155)); clear HB; have HB := n0_; have BK155 := n1_; have GW155 := n2_; have GE155 := n3_; clear n0_ n1_ n2_ n3_; clear hb hbox hg))
 (try simp only [Act.put, sz1, sz2, sz3])
 go_cut [18] (fun v18 wc => ∃ (kq : Nat) (x18_2 : Bool), v18 = .bool x18_2 ∧ Q9a (dlog_Order.j0 kq a0 a1 x18_2 = some (r1, r2, r3)) ∧ Q9a (kq ≤ k) ∧ Q9a (wc.heap[gb155]? = some (.cells #[.int .i64 0, (.slice none 0 0)] 26 (0, 0))) ∧ Q9a (Below w.heap.size w wc))
 case first =>
  have H := HC3.out
  clear HC3
  replace H := Option.bind_eq_some_iff.mp H
  obtain ⟨t156, A50, H⟩ := H
  replace H : (if t156 = true then (dlog_Order.j0 k a0 a1 (a1 == 0)) else (dlog_Order.j0 k a0 a1 true)) = some (r1, r2, r3) := H
  have A5 := Q9a.mk A50
  clear A50
  by_cases c6 : t156 = true
  ·subst c6
   have H1 : (dlog_Order.j0 k a0 a1 (a1 == 0)) = some (r1, r2, r3) := by rw [if_pos rfl] at H; exact H
   clear H
   have H := H1
   clear H1
   have H' := Q9a.mk H
   clear H
   go_wp2_with (first | ((with_reducible refine gate_callee (f := 40) rfl ?_); refine goesL_ (some 13) rfl rfl Try.func40 (by kernel_rfl) rfl #[.pointer (some ⟨b_a0, 0, none⟩), .int .i64 a1] rfl (by (try simp only [List.map_toArray, List.map_cons, List.map_nil]); first | done | rfl | (simp only [List.length_drop, List.length_take]; rfl)) ?_; (with_reducible refine (field_GF_Is.calls b_a0 a0 a1 true _ ?side1 A5.out).mono ?_); (case side1 => exact GFok.belowT HG_a0.out (by repeat (first | (with_reducible first | exact HB.out | apply bA | apply bN | apply bD | refine bS ?_ GE155.out) | exact HB.out))); rintro e w7 ⟨rfl, hb⟩; refine ⟨_, rfl, ?_⟩; have n0_ := Q9a.mk (kB (g := gb155) (o := .cells #[.int .i64 0, .slice none 0 0] 26 (0, 0)) (by (with_reducible repeat (first | refine kN ?_ _ | refine kD ?_ | refine kA ?_ _)); exact BK155.out) hb); have n1_ := Q9a.mk (bP (by repeat (first | (with_reducible first | exact HB.out | apply bA | apply bN | apply bD | refine bS ?_ GE155.out) | exact HB.out)) hb); clear BK155; clear HB; have BK155 := n0_; have HB := n1_; clear n0_ n1_; (try clear hb); (try clear hb2); (try clear hk); (try clear hi)))
   go_meet
   case rel => exact ⟨_, ((a1 == 0)), (by first | rfl | (simp; done) | (simp [*]; done)), H', ⟨by first | omega | exact Nat.le_refl _⟩, ⟨by (with_reducible repeat (first | refine kN ?_ _ | refine kD ?_ | refine kA ?_ _)); exact BK155.out⟩, ⟨by repeat (first | (with_reducible first | exact HB.out | apply bA | apply bN | apply bD | refine bS ?_ GE155.out) | exact HB.out)⟩⟩
  ·replace c6 := Bool.eq_false_iff.mpr c6
   subst c6
   have H1 : (dlog_Order.j0 k a0 a1 true) = some (r1, r2, r3) := by rw [if_neg (show ¬ (false = true) by decide)] at H; exact H
   clear H
   have H := H1
   clear H1
   have H' := Q9a.mk H
   clear H
   go_wp2_with (first | ((with_reducible refine gate_callee (f := 40) rfl ?_); refine goesL_ (some 13) rfl rfl Try.func40 (by kernel_rfl) rfl #[.pointer (some ⟨b_a0, 0, none⟩), .int .i64 a1] rfl (by (try simp only [List.map_toArray, List.map_cons, List.map_nil]); first | done | rfl | (simp only [List.length_drop, List.length_take]; rfl)) ?_; (with_reducible refine (field_GF_Is.calls b_a0 a0 a1 false _ ?side1 A5.out).mono ?_); (case side1 => exact GFok.belowT HG_a0.out (by repeat (first | (with_reducible first | exact HB.out | apply bA | apply bN | apply bD | refine bS ?_ GE155.out) | exact HB.out))); rintro e w8 ⟨rfl, hb⟩; refine ⟨_, rfl, ?_⟩; have n0_ := Q9a.mk (kB (g := gb155) (o := .cells #[.int .i64 0, .slice none 0 0] 26 (0, 0)) (by (with_reducible repeat (first | refine kN ?_ _ | refine kD ?_ | refine kA ?_ _)); exact BK155.out) hb); have n1_ := Q9a.mk (bP (by repeat (first | (with_reducible first | exact HB.out | apply bA | apply bN | apply bD | refine bS ?_ GE155.out) | exact HB.out)) hb); clear BK155; clear HB; have BK155 := n0_; have HB := n1_; clear n0_ n1_; (try clear hb); (try clear hb2); (try clear hk); (try clear hi)))
   go_meet
   case rel => exact ⟨_, (true), (by first | rfl | (simp; done) | (simp [*]; done)), H', ⟨by first | omega | exact Nat.le_refl _⟩, ⟨by (with_reducible repeat (first | refine kN ?_ _ | refine kD ?_ | refine kA ?_ _)); exact BK155.out⟩, ⟨by repeat (first | (with_reducible first | exact HB.out | apply bA | apply bN | apply bD | refine bS ?_ GE155.out) | exact HB.out)⟩⟩
 case rest =>
  clear HC3
  try clear c2
  try clear p2
  try clear c4
  try clear c6
  obtain ⟨kq, x18_2, rfl, HA, HJ2, BK155, HB⟩ := hcut
  cases kq with
  | zero => exact absurd HA.out (by simp [dlog_Order.j0])
  | succ kj2 =>
   have H := HA.out
   clear HA
   simp only [dlog_Order.j0] at H
   by_cases c9 : x18_2 = true
   ·subst c9
    have H1 : (some (0, ([] : List Int), 7)) = some (r1, r2, r3) := by rw [if_pos rfl] at H; exact H
    clear H
    have H := H1
    clear H1
    simp only [Option.some.injEq, Prod.mk.injEq] at H
    obtain ⟨rfl, rfl, rfl⟩ := H
    have hcz10_0 : wc.cell? ⟨gb155, 0, none⟩ = some (.int .i64 0) := (kC BK155.out 0).trans rfl
    have hcz10_1 : wc.cell? ⟨gb155, 1, none⟩ = some (.slice none 0 0) := (kC BK155.out 1).trans rfl
    have hfz10_0 := kF BK155.out 0
    have hfz10_1 := kF BK155.out 1
    go_wp2
    refine bodyPost_ret (results_ct rfl _ _ gb155 26 #[.int .i64 0, .slice none 0 0] (0, 0) _ rfl (by (with_reducible repeat (first | refine kN ?_ _ | refine kD ?_ | refine kA ?_ _)); refine blk_put (cs := #[.int .i64 0, .slice none 0 0]) ?_ 1 _ rfl; (with_reducible repeat (first | refine kN ?_ _ | refine kD ?_ | refine kA ?_ _)); refine blk_put (cs := #[.int .i64 0, .slice none 0 0]) ?_ 0 _ rfl; (with_reducible repeat (first | refine kN ?_ _ | refine kD ?_ | refine kA ?_ _)); exact BK155.out) Try.underlying26 rfl (by kernel_rfl)) rfl ?_
    exact ⟨_, by first | rfl | (simp [eN, eS] <;> rfl) | (simp [*, eN, eS] <;> rfl), by first | exact Kd.R_nil _ _ _ _ _ | exact Kd.N_nil _ _ _ _ _ | exact Kd.V_nil _ _ _ _ _ | exact Kd.Q_nil _ _ _ _ _ | exact Kd.S_nil _ _ _ _ _, by repeat (first | (with_reducible first | exact HB.out | apply bA | apply bN | apply bD | refine bS ?_ GE155.out) | exact HB.out)⟩
   ·replace c9 := Bool.eq_false_iff.mpr c9
    subst c9
    have H1 : ((field_GF_Order.f a0).bind fun t157 => ((dlog_primes.f kj2 (wrap64 (t157 - 1))).bind fun t158 => (dlog_Order.l0 kj2 a0 a1 (wrap64 (t157 - 1)) t158 (t158.length : Int) 0))) = some (r1, r2, r3) := by rw [if_neg (show ¬ (false = true) by decide)] at H; exact H
    clear H
    have H := H1
    clear H1
    replace H := Option.bind_eq_some_iff.mp H
    obtain ⟨t157, A110, H⟩ := H
    replace H : ((dlog_primes.f kj2 (wrap64 (t157 - 1))).bind fun t158 => (dlog_Order.l0 kj2 a0 a1 (wrap64 (t157 - 1)) t158 (t158.length : Int) 0)) = some (r1, r2, r3) := H
    have A11 := Q9a.mk A110
    clear A110
    replace H := Option.bind_eq_some_iff.mp H
    obtain ⟨t158, A120, H⟩ := H
    replace H : (dlog_Order.l0 kj2 a0 a1 (wrap64 (t157 - 1)) t158 (t158.length : Int) 0) = some (r1, r2, r3) := H
    have A12 := Q9a.mk A120
    clear A120
    have H' := Q9a.mk H
    clear H
    go_wp2_with (first | ((with_reducible refine gate_callee (f := 41) rfl ?_); refine goesL_ (some 21) rfl rfl Try.func41 (by kernel_rfl) rfl #[.pointer (some ⟨b_a0, 0, none⟩)] rfl (by (try simp only [List.map_toArray, List.map_cons, List.map_nil]); first | done | rfl | (simp only [List.length_drop, List.length_take]; rfl)) ?_; (with_reducible refine (field_GF_Order.calls b_a0 a0 t157 _ ?side1 A11.out).mono ?_); (case side1 => exact GFok.belowT HG_a0.out (by repeat (first | (with_reducible first | exact HB.out | apply bA | apply bN | apply bD | refine bS ?_ GE155.out) | exact HB.out))); rintro e w13 ⟨rfl, hb⟩; refine ⟨_, rfl, ?_⟩; have n0_ := Q9a.mk (kB (g := gb155) (o := .cells #[.int .i64 0, .slice none 0 0] 26 (0, 0)) (by (with_reducible repeat (first | refine kN ?_ _ | refine kD ?_ | refine kA ?_ _)); exact BK155.out) hb); have n1_ := Q9a.mk (bP (by repeat (first | (with_reducible first | exact HB.out | apply bA | apply bN | apply bD | refine bS ?_ GE155.out) | exact HB.out)) hb); clear BK155; clear HB; have BK155 := n0_; have HB := n1_; clear n0_ n1_; (try clear hb); (try clear hb2); (try clear hk); (try clear hi)) | ((with_reducible refine gate_callee (f := 43) rfl ?_); refine goesL_ (some 24) rfl rfl Try.func43 (by kernel_rfl) rfl #[.int .i64 (wrap64 (t157 - 1))] rfl (by (try simp only [List.map_toArray, List.map_cons, List.map_nil]); first | done | rfl | (simp only [List.length_drop, List.length_take]; rfl)) ?_; (with_reducible refine (dlog_primes.calls kj2 (wrap64 (t157 - 1)) t158 _ A12.out).mono ?_); rintro e w14 ⟨v159, rfl, ho0, hb⟩; refine ⟨_, rfl, ?_⟩; have n0_ := Q9a.mk (Kd.R_lower ho0 (bZ (by repeat (first | (with_reducible first | exact HB.out | apply bA | apply bN | apply bD | refine bS ?_ GE155.out) | exact HB.out)))); have n1_ := Q9a.mk (kB (g := gb155) (o := .cells #[.int .i64 0, .slice none 0 0] 26 (0, 0)) (by (with_reducible repeat (first | refine kN ?_ _ | refine kD ?_ | refine kA ?_ _)); exact BK155.out) hb); have n2_ := Q9a.mk (bP (by repeat (first | (with_reducible first | exact HB.out | apply bA | apply bN | apply bD | refine bS ?_ GE155.out) | exact HB.out)) hb); clear BK155; clear HB; have HO160 := n0_; have BK155 := n1_; have HB := n2_; clear n0_ n1_ n2_; (try clear hb); (try clear hb2); (try clear hk); (try clear hi); (try clear ho0); obtain ⟨Ao15, co15, eo15⟩ := Kd.R_slice HO160.out; subst eo15))
    go_loopg [6, 26] kj2 (fun kq v6 v26 w' => ∃ (x6_2 : Int) (x26_2 : Int), v6 = .int .i64 x6_2 ∧ v26 = .int .i64 x26_2 ∧ Q9a (dlog_Order.l0 kq a0 a1 x6_2 t158 (t158.length : Int) x26_2 = some (r1, r2, r3)) ∧ Q9a (kq ≤ kj2) ∧ Q9a (Kd.R (Kd.int .i64) 3 w' w.heap.size (fun _ => True) (.slice Ao15 t158.length co15) t158) ∧ Q9a (w'.heap[gb155]? = some (.cells #[.int .i64 0, (.slice none 0 0)] 26 (0, 0))) ∧ Q9a (Below w.heap.size w w'))
    case atStart => exact ⟨(wrap64 (t157 - 1)), (0), (by first | rfl | (simp; done) | (simp [*]; done)), (by first | rfl | (simp; done) | (simp [*]; done)), H', ⟨Nat.le_refl _⟩, ⟨by (with_reducible repeat (first | apply Kd.R_alloc | apply Kd.R_drewN | apply Kd.R_drew)); exact HO160.out⟩, ⟨by (with_reducible repeat (first | refine kN ?_ _ | refine kD ?_ | refine kA ?_ _)); exact BK155.out⟩, ⟨by repeat (first | (with_reducible first | exact HB.out | apply bA | apply bN | apply bD | refine bS ?_ GE155.out) | exact HB.out)⟩⟩
    case round =>
     clear H'
     try clear c2
     try clear p2
     try clear c4
     try clear c6
     try clear p6
     try clear c9
     try clear hcz10_0
     try clear hcz10_1
     try clear hfz10_0
     try clear hfz10_1
     try clear p2
     obtain ⟨x6_2, x26_2, rfl, rfl, HA, HK2, HO_24, BK155, HB⟩ := hrel
     cases gk with
     | zero => exact absurd HA.out (by simp [dlog_Order.l0])
     | succ k2 =>
      have H := HA.out
      clear HA
      simp only [dlog_Order.l0] at H
      by_cases c16 : x26_2 < (t158.length : Int)
      ·rw [if_pos c16] at H
       have c16b0 : decide (x26_2 < (t158.length : Int)) = true := decide_eq_true c16
       clear c16
       by_cases c17 : 0 ≤ x26_2
       ·rw [if_pos c17] at H
        have c17b0 : decide (0 ≤ x26_2) = true := decide_eq_true c17
        clear c17
        by_cases c18 : x26_2 < (t158.length : Int)
        ·rw [if_pos c18] at H
         have c18b0 : decide (x26_2 < (t158.length : Int)) = true := decide_eq_true c18
         clear c18
         have H' := Q9a.mk H
         clear H
         have p164 : 0 ≤ (x26_2 : Int) := of_decide_eq_true (by first | (with_reducible assumption) | assumption)
         have q164 : x26_2 < (t158.length : Int) := of_decide_eq_true (by first | (with_reducible assumption) | assumption)
         obtain ⟨ad164, e164, hx164_0⟩ := Kd.at_int (Kd.R_reads' HO_24.out).2.2 x26_2 p164 q164
         cases e164
         replace p164 := eq_true p164
         replace q164 := eq_true q164
         go_wp2
         go_loopg [6] k2 (fun kq v6 w' => ∃ (x6_3 : Int), v6 = .int .i64 x6_3 ∧ Q9a (dlog_Order.l1 kq a0 a1 x6_3 (rd t158 x26_2) t158 (t158.length : Int) x26_2 = some (r1, r2, r3)) ∧ Q9a (kq ≤ k2) ∧ Q9a (Kd.R (Kd.int .i64) 3 w' w.heap.size (fun _ => True) (.slice (some ad164) t158.length co15) t158) ∧ Q9a (w'.heap[gb155]? = some (.cells #[.int .i64 0, (.slice none 0 0)] 26 (0, 0))) ∧ Q9a (Below w.heap.size w w'))
         case atStart => exact ⟨(x6_2), (by first | rfl | (simp; done) | (simp [*]; done)), H', ⟨Nat.le_refl _⟩, ⟨by (with_reducible repeat (first | apply Kd.R_alloc | apply Kd.R_drewN | apply Kd.R_drew)); exact HO_24.out⟩, ⟨by (with_reducible repeat (first | refine kN ?_ _ | refine kD ?_ | refine kA ?_ _)); exact BK155.out⟩, ⟨by repeat (first | (with_reducible first | exact HB.out | apply bA | apply bN | apply bD | refine bS ?_ GE155.out) | exact HB.out)⟩⟩
         case round =>
          clear H'
          try clear c1
          try clear p1
          try clear q1
          try clear hx1
          try clear c2
          try clear p2
          try clear c4
          try clear c6
          try clear p6
          try clear c9
          try clear c16
          try clear c16b0
          try clear p16
          try clear q16
          try clear hx16
          try clear c17
          try clear c17b0
          try clear c18
          try clear c18b0
          try clear hcz10_0
          try clear hcz10_1
          try clear hfz10_0
          try clear hfz10_1
          try clear hx164_0
          try clear p164
          try clear p2
          try clear p6
          try clear q164
          obtain ⟨x6_3, rfl, HA, HK3, HO_24, BK155, HB⟩ := hrel
          cases gk with
          | zero => exact absurd HA.out (by simp [dlog_Order.l1])
          | succ k3 =>
           have H := HA.out
           clear HA
           simp only [dlog_Order.l1] at H
           by_cases c19 : (rd t158 x26_2) = 0
           ·rw [if_pos c19] at H
            exact absurd H (by simp)
           ·rw [if_neg c19] at H
            have c19b0 : ((rd t158 x26_2) == 0) = false := beq_eq_false_iff_ne.mpr c19
            have c19b1 : ((rd t158 x26_2) != 0) = true := bne_iff_ne.mpr c19
            by_cases c20 : (Int.tmod x6_3 (rd t158 x26_2)) = 0
            ·rw [if_pos c20] at H
             have c20b0 : ((Int.tmod x6_3 (rd t158 x26_2)) == 0) = true := beq_iff_eq.mpr c20
             have c20b1 : ((Int.tmod x6_3 (rd t158 x26_2)) != 0) = false := bne_eq_false_iff_eq.mpr c20
             clear c20
             replace H := Option.bind_eq_some_iff.mp H
             obtain ⟨⟨t165, t166⟩, A210, H⟩ := H
             replace H : (if t165 = 1 then (dlog_Order.l1 k3 a0 a1 (wrap64 (Int.tdiv x6_3 (rd t158 x26_2))) (rd t158 x26_2) t158 (t158.length : Int) x26_2) else (dlog_Order.l0 k3 a0 a1 x6_3 t158 (t158.length : Int) (wrap64 (x26_2 + 1)))) = some (r1, r2, r3) := H
             have A21 := Q9a.mk A210
             clear A210
             by_cases c22 : t165 = 1
             ·rw [if_pos c22] at H
              have c22b0 : (t165 == 1) = true := beq_iff_eq.mpr c22
              have c22b1 : (t165 != 1) = false := bne_eq_false_iff_eq.mpr c22
              clear c22
              have H' := Q9a.mk H
              clear H
              go_wp2_with (first | ((with_reducible refine gate_callee (f := 16) rfl ?_); refine goesL_ (some 40) rfl rfl Try.func16 (by kernel_rfl) rfl #[.pointer (some ⟨b_a0, 0, none⟩), .int .i64 a1, .int .i64 (wrap64 (Int.tdiv x6_3 (rd t158 x26_2)))] rfl (by (try simp only [List.map_toArray, List.map_cons, List.map_nil]); first | done | rfl | (simp only [List.length_drop, List.length_take]; rfl)) ?_; (with_reducible refine (field_GF_Pow.calls b_a0 a0 a1 (wrap64 (Int.tdiv x6_3 (rd t158 x26_2))) t165 t166 _ ?side1 A21.out).mono ?_); (case side1 => exact GFok.belowT HG_a0.out (by repeat (first | (with_reducible first | exact HB.out | apply bA | apply bN | apply bD | refine bS ?_ GE155.out) | exact HB.out))); rintro e w23 ⟨rfl, hb⟩; refine ⟨_, rfl, ?_⟩; have n0_ := Q9a.mk (Kd.R_below (by (with_reducible repeat (first | apply Kd.R_alloc | apply Kd.R_drewN | apply Kd.R_drew)); exact HO_24.out) hb); have n1_ := Q9a.mk (kB (g := gb155) (o := .cells #[.int .i64 0, .slice none 0 0] 26 (0, 0)) (by (with_reducible repeat (first | refine kN ?_ _ | refine kD ?_ | refine kA ?_ _)); exact BK155.out) hb); have n2_ := Q9a.mk (bP (by repeat (first | (with_reducible first | exact HB.out | apply bA | apply bN | apply bD | refine bS ?_ GE155.out) | exact HB.out)) hb); clear HO_24; clear BK155; clear HB; have HO_24 := n0_; have BK155 := n1_; have HB := n2_; clear n0_ n1_ n2_; (try clear hb); (try clear hb2); (try clear hk); (try clear hi)))
              go_roundg k3
              case measure => have := HJ2.out; have := HK2.out; have := HK3.out; omega
              case rel => exact ⟨(wrap64 (Int.tdiv x6_3 (rd t158 x26_2))), (by first | rfl | (simp; done) | (simp [*]; done)), H', ⟨by have := HJ2.out; have := HK2.out; have := HK3.out; omega⟩, ⟨by (with_reducible repeat (first | apply Kd.R_alloc | apply Kd.R_drewN | apply Kd.R_drew)); exact HO_24.out⟩, ⟨by (with_reducible repeat (first | refine kN ?_ _ | refine kD ?_ | refine kA ?_ _)); exact BK155.out⟩, ⟨by repeat (first | (with_reducible first | exact HB.out | apply bA | apply bN | apply bD | refine bS ?_ GE155.out) | exact HB.out)⟩⟩
             ·rw [if_neg c22] at H
              have c22b0 : (t165 == 1) = false := beq_eq_false_iff_ne.mpr c22
              have c22b1 : (t165 != 1) = true := bne_iff_ne.mpr c22
              have H' := Q9a.mk H
              clear H
              go_wp2_with (first | ((with_reducible refine gate_callee (f := 16) rfl ?_); refine goesL_ (some 40) rfl rfl Try.func16 (by kernel_rfl) rfl #[.pointer (some ⟨b_a0, 0, none⟩), .int .i64 a1, .int .i64 (wrap64 (Int.tdiv x6_3 (rd t158 x26_2)))] rfl (by (try simp only [List.map_toArray, List.map_cons, List.map_nil]); first | done | rfl | (simp only [List.length_drop, List.length_take]; rfl)) ?_; (with_reducible refine (field_GF_Pow.calls b_a0 a0 a1 (wrap64 (Int.tdiv x6_3 (rd t158 x26_2))) t165 t166 _ ?side1 A21.out).mono ?_); (case side1 => exact GFok.belowT HG_a0.out (by repeat (first | (with_reducible first | exact HB.out | apply bA | apply bN | apply bD | refine bS ?_ GE155.out) | exact HB.out))); rintro e w24 ⟨rfl, hb⟩; refine ⟨_, rfl, ?_⟩; have n0_ := Q9a.mk (Kd.R_below (by (with_reducible repeat (first | apply Kd.R_alloc | apply Kd.R_drewN | apply Kd.R_drew)); exact HO_24.out) hb); have n1_ := Q9a.mk (kB (g := gb155) (o := .cells #[.int .i64 0, .slice none 0 0] 26 (0, 0)) (by (with_reducible repeat (first | refine kN ?_ _ | refine kD ?_ | refine kA ?_ _)); exact BK155.out) hb); have n2_ := Q9a.mk (bP (by repeat (first | (with_reducible first | exact HB.out | apply bA | apply bN | apply bD | refine bS ?_ GE155.out) | exact HB.out)) hb); clear HO_24; clear BK155; clear HB; have HO_24 := n0_; have BK155 := n1_; have HB := n2_; clear n0_ n1_ n2_; (try clear hb); (try clear hb2); (try clear hk); (try clear hi)))
              go_roundg k3
              case measure => have := HJ2.out; have := HK2.out; have := HK3.out; omega
              case rel => exact ⟨(x6_3), (wrap64 (x26_2 + 1)), (by first | rfl | (simp; done) | (simp [*]; done)), (by first | rfl | (simp; done) | (simp [*]; done)), H', ⟨by have := HJ2.out; have := HK2.out; have := HK3.out; omega⟩, ⟨by (with_reducible repeat (first | apply Kd.R_alloc | apply Kd.R_drewN | apply Kd.R_drew)); exact HO_24.out⟩, ⟨by (with_reducible repeat (first | refine kN ?_ _ | refine kD ?_ | refine kA ?_ _)); exact BK155.out⟩, ⟨by repeat (first | (with_reducible first | exact HB.out | apply bA | apply bN | apply bD | refine bS ?_ GE155.out) | exact HB.out)⟩⟩
            ·rw [if_neg c20] at H
             have c20b0 : ((Int.tmod x6_3 (rd t158 x26_2)) == 0) = false := beq_eq_false_iff_ne.mpr c20
             have c20b1 : ((Int.tmod x6_3 (rd t158 x26_2)) != 0) = true := bne_iff_ne.mpr c20
             have H' := Q9a.mk H
             clear H
             go_wp2
             go_roundg k3
             case measure => have := HJ2.out; have := HK2.out; have := HK3.out; omega
             case rel => exact ⟨(x6_3), (wrap64 (x26_2 + 1)), (by first | rfl | (simp; done) | (simp [*]; done)), (by first | rfl | (simp; done) | (simp [*]; done)), H', ⟨by have := HJ2.out; have := HK2.out; have := HK3.out; omega⟩, ⟨by (with_reducible repeat (first | apply Kd.R_alloc | apply Kd.R_drewN | apply Kd.R_drew)); exact HO_24.out⟩, ⟨by (with_reducible repeat (first | refine kN ?_ _ | refine kD ?_ | refine kA ?_ _)); exact BK155.out⟩, ⟨by repeat (first | (with_reducible first | exact HB.out | apply bA | apply bN | apply bD | refine bS ?_ GE155.out) | exact HB.out)⟩⟩
        ·rw [if_neg c18] at H
         exact absurd H (by simp)
       ·rw [if_neg c17] at H
        exact absurd H (by simp)
      ·rw [if_neg c16] at H
       have c16b0 : decide (x26_2 < (t158.length : Int)) = false := decide_eq_false c16
       clear c16
       replace H := Option.bind_eq_some_iff.mp H
       obtain ⟨t161, A250, H⟩ := H
       replace H : (some (x6_2, t161, 0)) = some (r1, r2, r3) := H
       have A25 := Q9a.mk A250
       clear A250
       simp only [Option.some.injEq, Prod.mk.injEq] at H
       obtain ⟨rfl, rfl, rfl⟩ := H
       go_wp2_with (first | ((with_reducible refine gate_callee (f := 43) rfl ?_); refine goesL_ (some 51) rfl rfl Try.func43 (by kernel_rfl) rfl #[.int .i64 x6_2] rfl (by (try simp only [List.map_toArray, List.map_cons, List.map_nil]); first | done | rfl | (simp only [List.length_drop, List.length_take]; rfl)) ?_; (with_reducible refine (dlog_primes.calls k2 x6_2 t161 _ A25.out).mono ?_); rintro e w26 ⟨v162, rfl, ho0, hb⟩; refine ⟨_, rfl, ?_⟩; have n0_ := Q9a.mk (Kd.R_elder' (by (with_reducible repeat (first | apply Kd.R_alloc | apply Kd.R_drewN | apply Kd.R_drew)); exact HO_24.out) (Kd.R_base ho0) hb); have n1_ := Q9a.mk (Kd.R_lower (Kd.R_new' ho0 (Kd.R_lt (by (with_reducible repeat (first | apply Kd.R_alloc | apply Kd.R_drewN | apply Kd.R_drew)); exact HO_24.out))) (bZ (by repeat (first | (with_reducible first | exact HB.out | apply bA | apply bN | apply bD | refine bS ?_ GE155.out) | exact HB.out)))); have n2_ := Q9a.mk (kB (g := gb155) (o := .cells #[.int .i64 0, .slice none 0 0] 26 (0, 0)) (by (with_reducible repeat (first | refine kN ?_ _ | refine kD ?_ | refine kA ?_ _)); exact BK155.out) hb); have n3_ := Q9a.mk (bP (by repeat (first | (with_reducible first | exact HB.out | apply bA | apply bN | apply bD | refine bS ?_ GE155.out) | exact HB.out)) hb); clear HO_24; clear BK155; clear HB; have HO_24 := n0_; have HO163 := n1_; have BK155 := n2_; have HB := n3_; clear n0_ n1_ n2_ n3_; (try clear hb); (try clear hb2); (try clear hk); (try clear hi); (try clear ho0); obtain ⟨Ao27, co27, eo27⟩ := Kd.R_slice HO163.out; subst eo27; have hcz28_0 : w26.cell? ⟨gb155, 0, none⟩ = some (.int .i64 0) := (kC BK155.out 0).trans rfl; have hcz28_1 : w26.cell? ⟨gb155, 1, none⟩ = some (.slice none 0 0) := (kC BK155.out 1).trans rfl; have hfz28_0 := kF BK155.out 0; have hfz28_1 := kF BK155.out 1))
       refine bodyPost_ret (results_ct rfl _ _ gb155 26 #[.int .i64 x6_2, .slice Ao27 t161.length co27] (0, 0) _ rfl (by (with_reducible repeat (first | refine kN ?_ _ | refine kD ?_ | refine kA ?_ _)); refine blk_put (cs := #[.int .i64 x6_2, .slice none 0 0]) ?_ 1 _ rfl; (with_reducible repeat (first | refine kN ?_ _ | refine kD ?_ | refine kA ?_ _)); refine blk_put (cs := #[.int .i64 0, .slice none 0 0]) ?_ 0 _ rfl; (with_reducible repeat (first | refine kN ?_ _ | refine kD ?_ | refine kA ?_ _)); exact BK155.out) Try.underlying26 rfl (by kernel_rfl)) rfl ?_
       exact ⟨_, by first | rfl | (simp [eN, eS] <;> rfl) | (simp [*, eN, eS] <;> rfl), by (with_reducible repeat (first | apply Kd.R_alloc | apply Kd.R_drewN | apply Kd.R_drew)); exact Kd.R_mono (Kd.R_far (p := ⟨gb155, 1, none⟩) (Kd.R_far (p := ⟨gb155, 0, none⟩) (Kd.R_types HO163.out BK155.out (by decide)) (fun _ hk => hk.2) (.int .i64 x6_2)) (fun _ hk => hk.2) (.slice Ao27 t161.length co27)) (fun _ hk => trivial), by repeat (first | (with_reducible first | exact HB.out | apply bA | apply bN | apply bD | refine bS ?_ GE155.out) | exact HB.out)⟩
def dlog_IsPrimitive.f (k : Nat) (a0 : GFv) (a1 : Int) : Option (Bool) := (dlog_Order.f k a0 a1).bind fun bt167 => (if bt167.2.2 = 0 then ((field_GF_Order.f a0).bind fun t173 => (some (bt167.1 == (wrap64 (t173 - 1))))) else (some false))
def dlog_IsPrimitive.T2 : Bool × List (List Nat × List Nat) := (true, [([], []), ([0], [0]), ([1], [1]), ([2], [2]), ([3, 2], [2, 3]), ([2], [2]), ([5, 2, 2], [2, 5]), ([6, 2], [2, 6]), ([4, 7, 2], [2, 4, 7]), ([2, 8], [2, 8]), ([9, 6, 0, 1, 2, 3, 4, 5, 6, 7, 8, 9], [9])])
def dlog_IsPrimitive.B2 : List Nat := [0, 1, 3, 7, 15, 7, 39, 103, 255, 511, 1023]
theorem dlog_IsPrimitive.tab2 : rtab .any (opsOf Try.f19 2) = dlog_IsPrimitive.T2 := by kernel_rfl
theorem dlog_IsPrimitive.bits2 : waitsOk dlog_IsPrimitive.T2.2 dlog_IsPrimitive.B2 = true := by kernel_rfl
set_option maxHeartbeats 8000000 in
set_option maxRecDepth 100000 in
theorem dlog_IsPrimitive.calls (k : Nat) (b_a0 : Nat) (a0 : GFv) (a1 : Int) (r : Bool) (w : World) (hg0 : GFok w b_a0 a0) (h : dlog_IsPrimitive.f k a0 a1 = some r) :
  Calls Try.prog 19 #[.pointer (some ⟨b_a0, 0, none⟩), .int .i64 a1] w fun e w' => e = .returned (.bool r) ∧ Below w.heap.size w w' := by
 have hu26 := Try.underlying26
 have HG_a0 := Q9a.mk hg0
 clear hg0
 have HB := Q9a.mk (Below.refl w.heap.size w)
 have H : ((dlog_Order.f k a0 a1).bind fun bt167 => (if bt167.2.2 = 0 then ((field_GF_Order.f a0).bind fun t173 => (some (bt167.1 == (wrap64 (t173 - 1))))) else (some false))) = some r := h
 clear h
 replace H := Option.bind_eq_some_iff.mp H
 obtain ⟨⟨t167, t168, t171⟩, A30, H⟩ := H
 replace H : (if t171 = 0 then ((field_GF_Order.f a0).bind fun t173 => (some (t167 == (wrap64 (t173 - 1))))) else (some false)) = some r := H
 have A3 := Q9a.mk A30
 clear A30
 by_cases c4 : t171 = 0
 ·rw [if_pos c4] at H
  have c4b0 : (t171 == 0) = true := beq_iff_eq.mpr c4
  have c4b1 : (t171 != 0) = false := bne_eq_false_iff_eq.mpr c4
  clear c4
  replace H := Option.bind_eq_some_iff.mp H
  obtain ⟨t173, A50, H⟩ := H
  replace H : (some (t167 == (wrap64 (t173 - 1)))) = some r := H
  have A5 := Q9a.mk A50
  clear A50
  obtain rfl := Option.some.inj H
  go_enter Try.func19, Try.ntmps19
  try go_wp2_with (first | ((with_reducible refine gate_callee (f := 21) rfl ?_); refine goesL_ (some 10) rfl rfl Try.func21 (by kernel_rfl) rfl #[.pointer (some ⟨b_a0, 0, none⟩), .int .i64 a1] rfl (by (try simp only [List.map_toArray, List.map_cons, List.map_nil]); first | done | rfl | (simp only [List.length_drop, List.length_take]; rfl)) ?_; (with_reducible refine (dlog_Order.calls k b_a0 a0 a1 t167 t168 t171 _ ?side1 A3.out).mono ?_); (case side1 => exact GFok.belowT HG_a0.out (by repeat (first | (with_reducible first | exact HB.out | apply bA | apply bN | apply bD) | exact HB.out))); rintro e w6 ⟨v169, rfl, ho0, hb⟩; refine ⟨_, rfl, ?_⟩; have n0_ := Q9a.mk (Kd.R_lower ho0 (bZ (by repeat (first | (with_reducible first | exact HB.out | apply bA | apply bN | apply bD) | exact HB.out)))); have n1_ := Q9a.mk (bP (by repeat (first | (with_reducible first | exact HB.out | apply bA | apply bN | apply bD) | exact HB.out)) hb); clear HB; have HO170 := n0_; have HB := n1_; clear n0_ n1_; (try clear hb); (try clear hb2); (try clear hk); (try clear hi); (try clear ho0)) | ((with_reducible refine gate_dst (N := 5) rfl ?_); refine box_event ?hg (N := 5) ?hd (cs := #[.int .i64 0, .slice none 0 0]) (t := 26) ?hr ?_; (case hd => rfl); (case hg => rfl); (case hr => first | (go_simp; done) | (go_simp; rfl)); intro gb172 hg w7 hbox hb; have n0_ := Q9a.mk (Kd.R_below (by (with_reducible repeat (first | apply Kd.R_alloc | apply Kd.R_drewN | apply Kd.R_drew)); exact HO170.out) hb); have n1_ := Q9a.mk (bP (by repeat (first | (with_reducible first | exact HB.out | apply bA | apply bN | apply bD) | exact HB.out)) hb); have n2_ := Q9a.mk (hbox); have n3_ := Q9a.mk ((by rw [hg]; exact (bZ (by repeat (first | (with_reducible first | exact HB.out | apply bA | apply bN | apply bD) | exact HB.out))) : w.heap.size ≤ gb172)); have n4_ := Q9a.mk ((by rw [hg]; exact (bZ (by repeat (first | (with_reducible first | exact HB.out | apply bA | apply bN | apply bD) | exact HB.out))) : w.heap.size ≤ gb172)); clear HO170; clear HB; have HO170 := n0_; have HB := n1_; have BK172 := n2_; have GW172 := n3_; have GE172 := n4_; clear n0_ n1_ n2_ n3_ n4_; clear hb hbox hg; have hcz8_0 : w7.cell? ⟨gb172, 0, none⟩ = some (.int .i64 0) := (kC BK172.out 0).trans rfl; have hcz8_1 : w7.cell? ⟨gb172, 1, none⟩ = some (.slice none 0 0) := (kC BK172.out 1).trans rfl; have hfz8_0 := kF BK172.out 0; have hfz8_1 := kF BK172.out 1; obtain ⟨Ao9, co9, eo9⟩ := Kd.R_slice HO170.out; subst eo9))
  have n0_ : Q9a (Kd.R (Kd.int .i64) 3 ((w7.setCell ⟨gb172, 0, none⟩ (.int .i64 t167)).setCell ⟨gb172, 1, none⟩ (.slice Ao9 t168.length co9)) w.heap.size (fun _ => True) (.slice Ao9 t168.length co9) t168) := ⟨by (with_reducible repeat (first | apply Kd.R_alloc | apply Kd.R_drewN | apply Kd.R_drew)); exact Kd.R_mono (Kd.R_far (p := ⟨gb172, 1, none⟩) (Kd.R_far (p := ⟨gb172, 0, none⟩) (Kd.R_types HO170.out BK172.out (by decide)) (fun _ hk => hk.2) (.int .i64 t167)) (fun _ hk => hk.2) (.slice Ao9 t168.length co9)) (fun _ hk => trivial)⟩
  have n1_ : Q9a (((w7.setCell ⟨gb172, 0, none⟩ (.int .i64 t167)).setCell ⟨gb172, 1, none⟩ (.slice Ao9 t168.length co9)).heap[gb172]? = some (.cells #[.int .i64 t167, .slice Ao9 t168.length co9] 26 (0, 0))) := ⟨by (with_reducible repeat (first | refine kN ?_ _ | refine kD ?_ | refine kA ?_ _)); refine blk_put (cs := #[.int .i64 t167, .slice none 0 0]) ?_ 1 _ rfl; (with_reducible repeat (first | refine kN ?_ _ | refine kD ?_ | refine kA ?_ _)); refine blk_put (cs := #[.int .i64 0, .slice none 0 0]) ?_ 0 _ rfl; (with_reducible repeat (first | refine kN ?_ _ | refine kD ?_ | refine kA ?_ _)); exact BK172.out⟩
  have n2_ : Q9a (Below w.heap.size w ((w7.setCell ⟨gb172, 0, none⟩ (.int .i64 t167)).setCell ⟨gb172, 1, none⟩ (.slice Ao9 t168.length co9))) := ⟨by repeat (first | (with_reducible first | exact HB.out | apply bA | apply bN | apply bD | refine bS ?_ GE172.out) | exact HB.out)⟩
  (try clear HO170)
  (try clear BK172)
  (try clear HB)
  generalize ((w7.setCell ⟨gb172, 0, none⟩ (.int .i64 t167)).setCell ⟨gb172, 1, none⟩ (.slice Ao9 t168.length co9)) = w10 at n0_ n1_ n2_ ⊢
  have HO170 := n0_
  have BK172 := n1_
  have HB := n2_
  clear n0_ n1_ n2_
  have n0_ := Q9a.mk (Kd.R_drew HO170.out)
  have n1_ := Q9a.mk (kD BK172.out)
  have n2_ := Q9a.mk (bD HB.out)
  clear HO170
  clear BK172
  clear HB
  have HO170 := n0_
  have BK172 := n1_
  have HB := n2_
  clear n0_ n1_ n2_
  refine start_ (n := 11) (S := fun w' => w'.cell? ⟨gb172, 0, none⟩ = some (.int .i64 t167) ∧ w'.cell? ⟨gb172, 1, none⟩ = some (.slice Ao9 t168.length co9)) (ds := []) #[false, false, false, false, false, false, false, false, false, false, false] (by kernel_rfl) rfl rfl ⟨(kC BK172.out 0).trans rfl, (kC BK172.out 1).trans rfl⟩ (fun hHeld => ?_); refine with_tabW dlog_IsPrimitive.tab2 dlog_IsPrimitive.bits2 (fun HT_ HW_ => ?_)
  generalize w10.drew = w11 at HO170 BK172 HB hHeld ⊢
  refine pure_ (i := 0) (N := some 13) (v := ?_) (a' := ?_) #[true, false, false, false, false, false, false, false, false, false, false] rfl rfl (any_of HT_.out (by kernel_rfl)) (fun _ _ _ h => h) (Or.inl ⟨by rfl, ?_⟩) ?_ ?_
  rotate_left
  ·intro w'
   go_simp
   with_reducible rfl
  rotate_left
  ·simp only [Act.put, sz1, sz2, sz3, i64_w, i32_w]
   rfl
  refine pure_ (i := 1) (N := some 14) (v := ?_) (a' := ?_) #[true, true, false, false, false, false, false, false, false, false, false] rfl rfl (any_of HT_.out (by kernel_rfl)) (fun _ _ _ h => h) (Or.inl ⟨by rfl, ?_⟩) ?_ ?_
  rotate_left
  ·intro w'
   go_simp
   with_reducible rfl
  rotate_left
  ·simp only [Act.put, sz1, sz2, sz3, i64_w, i32_w]
   rfl
  refine pure_ (i := 2) (N := some 15) (v := ?_) (a' := ?_) #[true, true, true, false, false, false, false, false, false, false, false] rfl rfl (any_of HT_.out (by kernel_rfl)) (fun _ _ _ h => h) (Or.inl ⟨by rfl, ?_⟩) ?_ ?_
  rotate_left
  ·intro w'
   go_simp
   with_reducible rfl
  rotate_left
  ·simp only [Act.put, sz1, sz2, sz3, i64_w, i32_w]
   rfl
  refine pure_ (i := 3) (N := some 16) (v := ?_) (a' := ?_) #[true, true, true, true, false, false, false, false, false, false, false] rfl rfl (any_of HT_.out (by kernel_rfl)) (fun _ _ _ h => h) (Or.inl ⟨by rfl, ?_⟩) ?_ ?_
  rotate_left
  ·intro w'
   go_simp
   with_reducible rfl
  rotate_left
  ·simp only [Act.put, sz1, sz2, sz3, i64_w, i32_w]
   rfl
  refine pure_ (i := 5) (N := some 18) (v := ?_) (a' := ?_) #[true, true, true, true, false, true, false, false, false, false, false] rfl rfl (any_of HT_.out (by kernel_rfl)) (fun _ _ _ h => h) (Or.inl ⟨by rfl, ?_⟩) ?_ ?_
  rotate_left
  ·intro w'
   go_simp
   with_reducible rfl
  rotate_left
  ·simp only [Act.put, sz1, sz2, sz3, i64_w, i32_w]
   rfl
  refine take_ (i := 4) (N := some 17) (v := ?_) (a' := ?_) #[true, true, true, true, true, true, false, false, false, false, false] rfl rfl (take_ofW HT_.out HW_.out (by kernel_rfl)) (fun _ _ _ h => h) (Or.inl ⟨by rfl, ?_⟩) hHeld ?_ ?_
  rotate_left
  ·rintro w' ⟨s0, s1⟩
   go_simp
   with_reducible rfl
  rotate_left
  ·simp only [Act.put, sz1, sz2, sz3, i64_w, i32_w]
   rfl
  refine one_ (i := 6) (N := some 19) #[true, true, true, true, true, true, true, false, false, false, false] rfl rfl (one_of HT_.out (by kernel_rfl)) (by decide) (fun K hK => ?_)
  refine goes_ Try.func41 (by kernel_rfl) rfl #[.pointer (some ⟨b_a0, 0, none⟩)] (by rfl) rfl rfl (by (try simp only [List.map_toArray, List.map_cons, List.map_nil]); first | done | rfl | (simp only [List.length_drop, List.length_take]; rfl)) ?_
  with_reducible refine (field_GF_Order.calls b_a0 a0 t173 _ ?side1 A5.out).mono ?_
  (case side1 => exact GFok.belowT HG_a0.out (by repeat (first | (with_reducible first | exact HB.out | apply bA | apply bN | apply bD | refine bS ?_ GE172.out) | exact HB.out)))
  rintro e w12 ⟨rfl, hb⟩
  refine ⟨_, rfl, ?_⟩
  have n0_ := Q9a.mk (Kd.R_below (by (with_reducible repeat (first | apply Kd.R_alloc | apply Kd.R_drewN | apply Kd.R_drew)); exact HO170.out) hb)
  have n1_ := Q9a.mk (kB (g := gb172) (o := .cells #[.int .i64 t167, .slice Ao9 t168.length co9] 26 (0, 0)) (by (with_reducible repeat (first | refine kN ?_ _ | refine kD ?_ | refine kA ?_ _)); exact BK172.out) hb)
  have n2_ := Q9a.mk (bP (by repeat (first | (with_reducible first | exact HB.out | apply bA | apply bN | apply bD | refine bS ?_ GE172.out) | exact HB.out)) hb)
  clear HO170
  clear BK172
  clear HB
  have HO170 := n0_
  have BK172 := n1_
  have HB := n2_
  clear n0_ n1_ n2_
  (try clear hb)
  (try clear hb2)
  (try clear hk)
  (try clear hi)
  refine hK.out _ _ ⟨(kC BK172.out 0).trans rfl, (kC BK172.out 1).trans rfl⟩ (fun hHeld => ?_)
  clear hK K
  refine norm_ (a' := ?_) ?_ ?_
  rotate_left
  ·show Act.put _ (some 19) _ = _
   simp only [Act.put, sz1, sz2, sz3, i64_w, i32_w]
   rfl
  refine pure_ (i := 7) (N := some 20) (v := ?_) (a' := ?_) #[true, true, true, true, true, true, true, true, false, false, false] rfl rfl (any_of HT_.out (by kernel_rfl)) (fun _ _ _ h => h) (Or.inl ⟨by rfl, ?_⟩) ?_ ?_
  rotate_left
  ·intro w'
   go_simp
   with_reducible rfl
  rotate_left
  ·simp only [Act.put, sz1, sz2, sz3, i64_w, i32_w]
   rfl
  refine pure_ (i := 8) (N := some 21) (v := ?_) (a' := ?_) #[true, true, true, true, true, true, true, true, true, false, false] rfl rfl (any_of HT_.out (by kernel_rfl)) (fun _ _ _ h => h) (Or.inl ⟨by rfl, ?_⟩) ?_ ?_
  rotate_left
  ·intro w'
   go_simp
   with_reducible rfl
  rotate_left
  ·simp only [Act.put, sz1, sz2, sz3, i64_w, i32_w]
   rfl
  refine pure_ (i := 9) (N := some 22) (v := ?_) (a' := ?_) #[true, true, true, true, true, true, true, true, true, true, false] rfl rfl (any_of HT_.out (by kernel_rfl)) (fun _ _ _ h => h) (Or.inl ⟨by rfl, ?_⟩) ?_ ?_
  rotate_left
  ·intro w'
   go_simp
   with_reducible rfl
  rotate_left
  ·simp only [Act.put, sz1, sz2, sz3, i64_w, i32_w]
   rfl
  refine pure_ (i := 10) (N := some 4) (v := ?_) (a' := ?_) #[true, true, true, true, true, true, true, true, true, true, true] rfl rfl (any_of HT_.out (by kernel_rfl)) (fun _ _ _ h => h) (Or.inl ⟨by rfl, ?_⟩) ?_ ?_
  rotate_left
  ·intro w'
   go_simp
   with_reducible rfl
  rotate_left
  ·simp only [Act.put, sz1, sz2, sz3, i64_w, i32_w]
   rfl
  refine done_ (done_of HT_.out (by kernel_rfl)) ?_
  try go_wp2
  go_ret
  exact ⟨by first | rfl | (simp [eN, eS] <;> rfl) | (simp [*, eN, eS] <;> rfl), by repeat (first | (with_reducible first | exact HB.out | apply bA | apply bN | apply bD | refine bS ?_ GE172.out) | exact HB.out)⟩
 ·rw [if_neg c4] at H
  have c4b0 : (t171 == 0) = false := beq_eq_false_iff_ne.mpr c4
  have c4b1 : (t171 != 0) = true := bne_iff_ne.mpr c4
  obtain rfl := Option.some.inj H
  go_enter Try.func19, Try.ntmps19
  try go_wp2_with (first | ((with_reducible refine gate_callee (f := 21) rfl ?_); refine goesL_ (some 10) rfl rfl Try.func21 (by kernel_rfl) rfl #[.pointer (some ⟨b_a0, 0, none⟩), .int .i64 a1] rfl (by (try simp only [List.map_toArray, List.map_cons, List.map_nil]); first | done | rfl | (simp only [List.length_drop, List.length_take]; rfl)) ?_; (with_reducible refine (dlog_Order.calls k b_a0 a0 a1 t167 t168 t171 _ ?side1 A3.out).mono ?_); (case side1 => exact GFok.belowT HG_a0.out (by repeat (first | (with_reducible first | exact HB.out | apply bA | apply bN | apply bD) | exact HB.out))); rintro e w13 ⟨v169, rfl, ho0, hb⟩; refine ⟨_, rfl, ?_⟩; have n0_ := Q9a.mk (Kd.R_lower ho0 (bZ (by repeat (first | (with_reducible first | exact HB.out | apply bA | apply bN | apply bD) | exact HB.out)))); have n1_ := Q9a.mk (bP (by repeat (first | (with_reducible first | exact HB.out | apply bA | apply bN | apply bD) | exact HB.out)) hb); clear HB; have HO170 := n0_; have HB := n1_; clear n0_ n1_; (try clear hb); (try clear hb2); (try clear hk); (try clear hi); (try clear ho0)) | ((with_reducible refine gate_dst (N := 5) rfl ?_); refine box_event ?hg (N := 5) ?hd (cs := #[.int .i64 0, .slice none 0 0]) (t := 26) ?hr ?_; (case hd => rfl); (case hg => rfl); (case hr => first | (go_simp; done) | (go_simp; rfl)); intro gb172 hg w14 hbox hb; have n0_ := Q9a.mk (Kd.R_below (by (with_reducible repeat (first | apply Kd.R_alloc | apply Kd.R_drewN | apply Kd.R_drew)); exact HO170.out) hb); have n1_ := Q9a.mk (bP (by repeat (first | (with_reducible first | exact HB.out | apply bA | apply bN | apply bD) | exact HB.out)) hb); have n2_ := Q9a.mk (hbox); have n3_ := Q9a.mk ((by rw [hg]; exact (bZ (by repeat (first | (with_reducible first | exact HB.out | apply bA | apply bN | apply bD) | exact HB.out))) : w.heap.size ≤ gb172)); have n4_ := Q9a.mk ((by rw [hg]; exact (bZ (by repeat (first | (with_reducible first | exact HB.out | apply bA | apply bN | apply bD) | exact HB.out))) : w.heap.size ≤ gb172)); clear HO170; clear HB; have HO170 := n0_; have HB := n1_; have BK172 := n2_; have GW172 := n3_; have GE172 := n4_; clear n0_ n1_ n2_ n3_ n4_; clear hb hbox hg; have hcz15_0 : w14.cell? ⟨gb172, 0, none⟩ = some (.int .i64 0) := (kC BK172.out 0).trans rfl; have hcz15_1 : w14.cell? ⟨gb172, 1, none⟩ = some (.slice none 0 0) := (kC BK172.out 1).trans rfl; have hfz15_0 := kF BK172.out 0; have hfz15_1 := kF BK172.out 1; obtain ⟨Ao16, co16, eo16⟩ := Kd.R_slice HO170.out; subst eo16))
  have n0_ : Q9a (Kd.R (Kd.int .i64) 3 ((w14.setCell ⟨gb172, 0, none⟩ (.int .i64 t167)).setCell ⟨gb172, 1, none⟩ (.slice Ao16 t168.length co16)) w.heap.size (fun _ => True) (.slice Ao16 t168.length co16) t168) := ⟨by (with_reducible repeat (first | apply Kd.R_alloc | apply Kd.R_drewN | apply Kd.R_drew)); exact Kd.R_mono (Kd.R_far (p := ⟨gb172, 1, none⟩) (Kd.R_far (p := ⟨gb172, 0, none⟩) (Kd.R_types HO170.out BK172.out (by decide)) (fun _ hk => hk.2) (.int .i64 t167)) (fun _ hk => hk.2) (.slice Ao16 t168.length co16)) (fun _ hk => trivial)⟩
  have n1_ : Q9a (((w14.setCell ⟨gb172, 0, none⟩ (.int .i64 t167)).setCell ⟨gb172, 1, none⟩ (.slice Ao16 t168.length co16)).heap[gb172]? = some (.cells #[.int .i64 t167, .slice Ao16 t168.length co16] 26 (0, 0))) := ⟨by (with_reducible repeat (first | refine kN ?_ _ | refine kD ?_ | refine kA ?_ _)); refine blk_put (cs := #[.int .i64 t167, .slice none 0 0]) ?_ 1 _ rfl; (with_reducible repeat (first | refine kN ?_ _ | refine kD ?_ | refine kA ?_ _)); refine blk_put (cs := #[.int .i64 0, .slice none 0 0]) ?_ 0 _ rfl; (with_reducible repeat (first | refine kN ?_ _ | refine kD ?_ | refine kA ?_ _)); exact BK172.out⟩
  have n2_ : Q9a (Below w.heap.size w ((w14.setCell ⟨gb172, 0, none⟩ (.int .i64 t167)).setCell ⟨gb172, 1, none⟩ (.slice Ao16 t168.length co16))) := ⟨by repeat (first | (with_reducible first | exact HB.out | apply bA | apply bN | apply bD | refine bS ?_ GE172.out) | exact HB.out)⟩
  (try clear HO170)
  (try clear BK172)
  (try clear HB)
  generalize ((w14.setCell ⟨gb172, 0, none⟩ (.int .i64 t167)).setCell ⟨gb172, 1, none⟩ (.slice Ao16 t168.length co16)) = w17 at n0_ n1_ n2_ ⊢
  have HO170 := n0_
  have BK172 := n1_
  have HB := n2_
  clear n0_ n1_ n2_
  have n0_ := Q9a.mk (Kd.R_drew HO170.out)
  have n1_ := Q9a.mk (kD BK172.out)
  have n2_ := Q9a.mk (bD HB.out)
  clear HO170
  clear BK172
  clear HB
  have HO170 := n0_
  have BK172 := n1_
  have HB := n2_
  clear n0_ n1_ n2_
  refine start_ (n := 11) (S := fun w' => True) (ds := []) #[false, false, false, false, false, false, false, false, false, false, false] (by kernel_rfl) rfl rfl trivial (fun hHeld => ?_); refine with_tabW dlog_IsPrimitive.tab2 dlog_IsPrimitive.bits2 (fun HT_ HW_ => ?_)
  generalize w17.drew = w18 at HO170 BK172 HB hHeld ⊢
  refine pure_ (i := 0) (N := some 13) (v := ?_) (a' := ?_) #[true, false, false, false, false, false, false, false, false, false, false] rfl rfl (any_of HT_.out (by kernel_rfl)) (fun _ _ _ h => h) (Or.inl ⟨by rfl, ?_⟩) ?_ ?_
  rotate_left
  ·intro w'
   go_simp
   with_reducible rfl
  rotate_left
  ·simp only [Act.put, sz1, sz2, sz3, i64_w, i32_w]
   rfl
  refine pure_ (i := 1) (N := some 14) (v := ?_) (a' := ?_) #[true, true, false, false, false, false, false, false, false, false, false] rfl rfl (any_of HT_.out (by kernel_rfl)) (fun _ _ _ h => h) (Or.inl ⟨by rfl, ?_⟩) ?_ ?_
  rotate_left
  ·intro w'
   go_simp
   with_reducible rfl
  rotate_left
  ·simp only [Act.put, sz1, sz2, sz3, i64_w, i32_w]
   rfl
  refine pure_ (i := 2) (N := some 15) (v := ?_) (a' := ?_) #[true, true, true, false, false, false, false, false, false, false, false] rfl rfl (any_of HT_.out (by kernel_rfl)) (fun _ _ _ h => h) (Or.inl ⟨by rfl, ?_⟩) ?_ ?_
  rotate_left
  ·intro w'
   go_simp
   with_reducible rfl
  rotate_left
  ·simp only [Act.put, sz1, sz2, sz3, i64_w, i32_w]
   rfl
  refine pure_ (i := 3) (N := some 16) (v := undef) (a' := ?_) #[true, true, true, true, false, false, false, false, false, false, false] rfl rfl (any_of HT_.out (by kernel_rfl)) (fun _ _ _ h => h) (Or.inr ⟨by rfl, rfl⟩) ?_ ?_
  rotate_left
  ·simp only [Act.put, sz1, sz2, sz3, i64_w, i32_w]
   rfl
  refine pure_ (i := 4) (N := some 17) (v := undef) (a' := ?_) #[true, true, true, true, true, false, false, false, false, false, false] rfl rfl (any_of HT_.out (by kernel_rfl)) (fun _ _ _ h => h) (Or.inr ⟨by rfl, rfl⟩) ?_ ?_
  rotate_left
  ·simp only [Act.put, sz1, sz2, sz3, i64_w, i32_w]
   rfl
  refine pure_ (i := 5) (N := some 18) (v := undef) (a' := ?_) #[true, true, true, true, true, true, false, false, false, false, false] rfl rfl (any_of HT_.out (by kernel_rfl)) (fun _ _ _ h => h) (Or.inr ⟨by rfl, rfl⟩) ?_ ?_
  rotate_left
  ·simp only [Act.put, sz1, sz2, sz3, i64_w, i32_w]
   rfl
  refine pure_ (i := 6) (N := some 19) (v := undef) (a' := ?_) #[true, true, true, true, true, true, true, false, false, false, false] rfl rfl (any_of HT_.out (by kernel_rfl)) (fun _ _ _ h => h) (Or.inr ⟨by rfl, rfl⟩) ?_ ?_
  rotate_left
  ·simp only [Act.put, sz1, sz2, sz3, i64_w, i32_w]
   rfl
  refine pure_ (i := 7) (N := some 20) (v := undef) (a' := ?_) #[true, true, true, true, true, true, true, true, false, false, false] rfl rfl (any_of HT_.out (by kernel_rfl)) (fun _ _ _ h => h) (Or.inr ⟨by rfl, rfl⟩) ?_ ?_
  rotate_left
  ·simp only [Act.put, sz1, sz2, sz3, i64_w, i32_w]
   rfl
  refine pure_ (i := 8) (N := some 21) (v := undef) (a' := ?_) #[true, true, true, true, true, true, true, true, true, false, false] rfl rfl (any_of HT_.out (by kernel_rfl)) (fun _ _ _ h => h) (Or.inr ⟨by rfl, rfl⟩) ?_ ?_
  rotate_left
  ·simp only [Act.put, sz1, sz2, sz3, i64_w, i32_w]
   rfl
  refine pure_ (i := 9) (N := some 22) (v := ?_) (a' := ?_) #[true, true, true, true, true, true, true, true, true, true, false] rfl rfl (any_of HT_.out (by kernel_rfl)) (fun _ _ _ h => h) (Or.inl ⟨by rfl, ?_⟩) ?_ ?_
  rotate_left
  ·intro w'
   go_simp
   with_reducible rfl
  rotate_left
  ·simp only [Act.put, sz1, sz2, sz3, i64_w, i32_w]
   rfl
  refine pure_ (i := 10) (N := some 4) (v := ?_) (a' := ?_) #[true, true, true, true, true, true, true, true, true, true, true] rfl rfl (any_of HT_.out (by kernel_rfl)) (fun _ _ _ h => h) (Or.inl ⟨by rfl, ?_⟩) ?_ ?_
  rotate_left
  ·intro w'
   go_simp
   with_reducible rfl
  rotate_left
  ·simp only [Act.put, sz1, sz2, sz3, i64_w, i32_w]
   rfl
  refine done_ (done_of HT_.out (by kernel_rfl)) ?_
  try go_wp2
  go_ret
  exact ⟨by first | rfl | (simp [eN, eS] <;> rfl) | (simp [*, eN, eS] <;> rfl), by repeat (first | (with_reducible first | exact HB.out | apply bA | apply bN | apply bD | refine bS ?_ GE172.out) | exact HB.out)⟩
end
end Go.Proofs.Ytbohbfggmnjpdaa.P
end
