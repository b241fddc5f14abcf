/- What towerClosed_holds needs: texts Pa5, Pa6, Pa7, Pa8, put together. -/
import Derived.Test.YtoambdpchjeklaaKTC6
set_option linter.unusedVariables false
set_option linter.unusedSimpArgs false
-- Pa5
section
namespace Go.Proofs.Ytoambdpchjeklaa.P
noncomputable section
open Go.RowKit Go.Proofs.Ytoambdpchjeklaa.Hand Go.Proofs.YtoambdpchjeklaaW.PrintWords Go.Proofs.YtoambdpchjeklaaW.PrintLast Go.Proofs.YtoambdpchjeklaaW.PrintMore
set_option linter.unusedVariables false
set_option linter.unusedSimpArgs false
def r4Value.l0 : Nat → List Int → Int → Int → Int → Int → List Int → Option (Int)
 | 0, _, _, _, _, _, _ => none
 | k + 1, x1, x5, x6, x195000, x195001, x195002 => if x6 ≥ 0 then (if 0 ≤ x6 then (if x6 < (x1.length : Int) then (r4Value.l0 k x1 (wrap64 ((wrap64 (x5 * x195000)) + (rd x1 x6))) (wrap64 (x6 - 1)) x195000 x195001 x195002) else (none)) else (none)) else (some x5)
def r4Value.f (k : Nat) (a0_0 : Int) (a0_1 : Int) (l0_2 : List Int) (l1 : List Int) : Option (Int) := r4Value.l0 k l1 0 (wrap64 ((l1.length : Int) - 1)) a0_0 a0_1 l0_2
set_option maxHeartbeats 8000000 in
set_option maxRecDepth 100000 in
theorem r4Value.calls (k : Nat) (a0_0 : Int) (a0_1 : Int) (A0_2 : Option Addr) (c0_2 : Nat) (l0_2 : List Int) (A1 : Option Addr) (c1 : Nat) (l1 : List Int) (r : Int) (w : World) (hr0_2 : Kd.C (Kd.int .i64) w A0_2 l0_2.length l0_2) (hc0_2 : l0_2.length ≤ c0_2) (hr1 : Kd.C (Kd.int .i64) w A1 l1.length l1) (hc1 : l1.length ≤ c1) (h : r4Value.f k a0_0 a0_1 l0_2 l1 = some r) :
  Calls Try.prog 44 #[.agg #[.int .i64 a0_0, .int .i64 a0_1, .slice A0_2 l0_2.length c0_2], .slice A1 l1.length c1] w fun e w' => e = .returned (.int .i64 r) ∧ Below w.heap.size w w' := by
 have hu24 := Try.underlying24
 have HR0_2 := Q9a.mk hr0_2
 have HC0_2 := Q9a.mk hc0_2
 clear hr0_2 hc0_2
 have HR1 := Q9a.mk hr1
 have HC1 := Q9a.mk hc1
 clear hr1 hc1
 have HB := Q9a.mk (Below.refl w.heap.size w)
 have H : (r4Value.l0 k l1 0 (wrap64 ((l1.length : Int) - 1)) a0_0 a0_1 l0_2) = some r := h
 clear h
 have H' := Q9a.mk H
 clear H
 go_enter Try.func44, Try.ntmps44
 go_wp2_with (first | ((with_reducible refine gate_dst (N := 2) rfl ?_); refine box_event ?hg (N := 2) ?hd (cs := #[.int .i64 a0_0, .int .i64 a0_1, .slice A0_2 l0_2.length c0_2]) (t := 24) ?hr ?_; (case hd => rfl); (case hg => rfl); (case hr => first | (go_simp; done) | (go_simp; rfl)); intro gb194 hg w3 hbox hb; have n0_ := Q9a.mk (bP (by repeat (first | (with_reducible first | exact HB.out | apply bA | apply bN | apply bD) | exact HB.out)) hb); have n1_ := Q9a.mk (hbox); have n2_ := Q9a.mk ((by rw [hg]; exact (bZ (by repeat (first | (with_reducible first | exact HB.out | apply bA | apply bN | apply bD) | exact HB.out))) : w.heap.size ≤ gb194)); have n3_ := Q9a.mk ((by rw [hg]; exact (bZ (by repeat (first | (with_reducible first | exact HB.out | apply bA | apply bN | apply bD) | exact HB.out))) : w.heap.size ≤ gb194)); clear HB; have HB := n0_; have BK194 := n1_; have GW194 := n2_; have GE194 := n3_; clear n0_ n1_ n2_ n3_; clear hb hbox hg))
 repeat (go_quiet (first | ((with_reducible refine gate_dst (N := 2) rfl ?_); refine box_event ?hg (N := 2) ?hd (cs := #[.int .i64 a0_0, .int .i64 a0_1, .slice A0_2 l0_2.length c0_2]) (t := 24) ?hr ?_; (case hd => rfl); (case hg => rfl); (case hr => first | (go_simp; done) | (go_simp; rfl)); intro gb194 hg w3 hbox hb; have n0_ := Q9a.mk (bP (by repeat (first | (with_reducible first | exact HB.out | apply bA | apply bN | apply bD) | exact HB.out)) hb); have n1_ := Q9a.mk (hbox); have n2_ := Q9a.mk ((by rw [hg]; exact (bZ (by repeat (first | (with_reducible first | exact HB.out | apply bA | apply bN | apply bD) | exact HB.out))) : w.heap.size ≤ gb194)); have n3_ := Q9a.mk ((by rw [hg]; exact (bZ (by repeat (first | (with_reducible first | exact HB.out | apply bA | apply bN | apply bD) | exact HB.out))) : w.heap.size ≤ gb194)); clear HB; have HB := n0_; have BK194 := n1_; have GW194 := n2_; have GE194 := n3_; clear n0_ n1_ n2_ n3_; clear hb hbox hg)); try go_wp2_with (first | ((with_reducible refine gate_dst (N := 2) rfl ?_); refine box_event ?hg (N := 2) ?hd (cs := #[.int .i64 a0_0, .int .i64 a0_1, .slice A0_2 l0_2.length c0_2]) (t := 24) ?hr ?_; (case hd => rfl); (case hg => rfl); (case hr => first | (go_simp; done) | (go_simp; rfl)); intro gb194 hg w3 hbox hb; have n0_ := Q9a.mk (bP (by repeat (first | (with_reducible first | exact HB.out | apply bA | apply bN | apply bD) | exact HB.out)) hb); have n1_ := Q9a.mk (hbox); have n2_ := Q9a.mk ((by rw [hg]; exact (bZ (by repeat (first | (with_reducible first | exact HB.out | apply bA | apply bN | apply bD) | exact HB.out))) : w.heap.size ≤ gb194)); have n3_ := Q9a.mk ((by rw [hg]; exact (bZ (by repeat (first | (with_reducible first | exact HB.out | apply bA | apply bN | apply bD) | exact HB.out))) : w.heap.size ≤ gb194)); clear HB; have HB := n0_; have BK194 := n1_; have GW194 := n2_; have GE194 := n3_; clear n0_ n1_ n2_ n3_; clear hb hbox hg)))
 go_loopg [5, 6] k (fun kq v5 v6 w' => ∃ (x5_1 : Int) (x6_1 : Int), v5 = .int .i64 x5_1 ∧ v6 = .int .i64 x6_1 ∧ Q9a (r4Value.l0 kq l1 x5_1 x6_1 a0_0 a0_1 l0_2 = some r) ∧ Q9a (kq ≤ k) ∧ Q9a (w'.heap[gb194]? = some (.cells #[.int .i64 a0_0, .int .i64 a0_1, (.slice A0_2 l0_2.length c0_2)] 24 (0, 0))) ∧ Q9a (Below w.heap.size w w'))
 case atStart => exact ⟨(0), (wrap64 ((l1.length : Int) - 1)), (by first | rfl | (simp; done) | (simp [*]; done)), (by first | rfl | (simp; done) | (simp [*]; done)), H', ⟨Nat.le_refl _⟩, ⟨by (with_reducible repeat (first | refine kN ?_ _ | refine kD ?_ | refine kA ?_ _)); exact BK194.out⟩, ⟨by repeat (first | (with_reducible first | exact HB.out | apply bA | apply bN | apply bD | refine bS ?_ GE194.out) | exact HB.out)⟩⟩
 case round =>
  clear H'
  try clear c1
  try clear p2
  obtain ⟨x5_1, x6_1, rfl, rfl, HA, HK1, BK194, HB⟩ := hrel
  cases gk with
  | zero => exact absurd HA.out (by simp [r4Value.l0])
  | succ k1 =>
   have H := HA.out
   clear HA
   simp only [r4Value.l0] at H
   by_cases c4 : x6_1 ≥ 0
   ·rw [if_pos c4] at H
    have c4b0 : decide (0 ≤ x6_1) = true := decide_eq_true c4
    clear c4
    by_cases c5 : 0 ≤ x6_1
    ·rw [if_pos c5] at H
     have c5b0 : decide (0 ≤ x6_1) = true := decide_eq_true c5
     clear c5
     by_cases c6 : x6_1 < (l1.length : Int)
     ·rw [if_pos c6] at H
      have c6b0 : decide (x6_1 < (l1.length : Int)) = true := decide_eq_true c6
      clear c6
      have H' := Q9a.mk H
      clear H
      have hcz7_0 : wr.cell? ⟨gb194, 0, none⟩ = some (.int .i64 a0_0) := (kC BK194.out 0).trans rfl
      have hcz7_1 : wr.cell? ⟨gb194, 1, none⟩ = some (.int .i64 a0_1) := (kC BK194.out 1).trans rfl
      have hcz7_2 : wr.cell? ⟨gb194, 2, none⟩ = some (.slice A0_2 l0_2.length c0_2) := (kC BK194.out 2).trans rfl
      have hfz7_0 := kF BK194.out 0
      have hfz7_1 := kF BK194.out 1
      have hfz7_2 := kF BK194.out 2
      have p195 : 0 ≤ (x6_1 : Int) := of_decide_eq_true (by first | (with_reducible assumption) | assumption)
      have q195 : x6_1 < (l1.length : Int) := of_decide_eq_true (by first | (with_reducible assumption) | assumption)
      obtain ⟨ad195, e195, hx195_0⟩ := Kd.at_int HR1.out x6_1 p195 q195
      cases e195
      replace hx195_0 := (HB.out.cell (World.block_lt_of_cell? w _ hx195_0)).trans hx195_0
      replace p195 := eq_true p195
      replace q195 := eq_true q195
      go_wp2
      repeat (go_quiet (fail); try go_wp2)
      go_roundg k1
      case measure => have := HK1.out; omega
      case rel => exact ⟨(wrap64 ((wrap64 (x5_1 * a0_0)) + (rd l1 x6_1))), (wrap64 (x6_1 - 1)), (by first | rfl | (simp; done) | (simp [*]; done)), (by first | rfl | (simp; done) | (simp [*]; done)), H', ⟨by have := HK1.out; omega⟩, ⟨by (with_reducible repeat (first | refine kN ?_ _ | refine kD ?_ | refine kA ?_ _)); exact BK194.out⟩, ⟨by repeat (first | (with_reducible first | exact HB.out | apply bA | apply bN | apply bD | refine bS ?_ GE194.out) | exact HB.out)⟩⟩
     ·rw [if_neg c6] at H
      exact absurd H (by simp)
    ·rw [if_neg c5] at H
     exact absurd H (by simp)
   ·rw [if_neg c4] at H
    have c4b0 : decide (0 ≤ x6_1) = false := decide_eq_false c4
    clear c4
    obtain rfl := Option.some.inj H
    go_wp2
    repeat (go_quiet (fail); try go_wp2)
    go_ret
    exact ⟨by first | rfl | (simp [eN, eS] <;> rfl) | (simp [*, eN, eS] <;> rfl), by repeat (first | (with_reducible first | exact HB.out | apply bA | apply bN | apply bD | refine bS ?_ GE194.out) | exact HB.out)⟩
end
end Go.Proofs.Ytoambdpchjeklaa.P
end
-- Pa6
section
namespace Go.Proofs.Ytoambdpchjeklaa.P
noncomputable section
open Go.RowKit Go.Proofs.Ytoambdpchjeklaa.Hand Go.Proofs.YtoambdpchjeklaaW.PrintWords Go.Proofs.YtoambdpchjeklaaW.PrintLast Go.Proofs.YtoambdpchjeklaaW.PrintMore
set_option linter.unusedVariables false
set_option linter.unusedSimpArgs false
mutual
def r4Mul.l0 : Nat → List Int → List Int → List Int → Int → Int → Int → List Int → Option (Int)
 | 0, _, _, _, _, _, _, _ => none
 | k + 1, x7, x8, x9, x10, x197000, x197001, x197002 => if x10 < x197001 then (r4Mul.l1 k x7 x8 x9 x10 0 x197000 x197001 x197002) else (r4Mul.l2 k x9 (wrap64 ((wrap64 (2 * x197001)) - 2)) x197000 x197001 x197002)
def r4Mul.l1 : Nat → List Int → List Int → List Int → Int → Int → Int → Int → List Int → Option (Int)
 | 0, _, _, _, _, _, _, _, _ => none
 | k + 1, x7, x8, x9, x10, x11, x197000, x197001, x197002 => if x11 < x197001 then (if 0 ≤ (wrap64 (x10 + x11)) then (if (wrap64 (x10 + x11)) < (x9.length : Int) then (if 0 ≤ x10 then (if x10 < (x7.length : Int) then (if 0 ≤ x11 then (if x11 < (x8.length : Int) then (if x197000 = 0 then (none) else (r4Mul.l1 k x7 x8 (x9.set ((wrap64 (x10 + x11)) : Int).toNat (Int.tmod (wrap64 ((rd x9 (wrap64 (x10 + x11))) + (wrap64 ((rd x7 x10) * (rd x8 x11))))) x197000)) x10 (wrap64 (x11 + 1)) x197000 x197001 x197002)) else (none)) else (none)) else (none)) else (none)) else (none)) else (none)) else (r4Mul.l0 k x7 x8 x9 (wrap64 (x10 + 1)) x197000 x197001 x197002)
def r4Mul.l2 : Nat → List Int → Int → Int → Int → List Int → Option (Int)
 | 0, _, _, _, _, _ => none
 | k + 1, x9, x12, x197000, x197001, x197002 => if x12 ≥ x197001 then (r4Mul.l3 k x9 x12 0 x197000 x197001 x197002) else (if 0 ≤ x197001 then (if x197001 ≤ (x9.length : Int) then ((r4Value.f k x197000 x197001 x197002 (x9.take (x197001 : Int).toNat)).bind fun t214 => (some t214)) else (none)) else (none))
def r4Mul.l3 : Nat → List Int → Int → Int → Int → Int → List Int → Option (Int)
 | 0, _, _, _, _, _, _ => none
 | k + 1, x9, x12, x13, x197000, x197001, x197002 => if x13 < x197001 then (if 0 ≤ (wrap64 ((wrap64 (x12 - x197001)) + x13)) then (if (wrap64 ((wrap64 (x12 - x197001)) + x13)) < (x9.length : Int) then (if 0 ≤ x12 then (if x12 < (x9.length : Int) then (if 0 ≤ x13 then (if x13 < (x197002.length : Int) then (if x197000 = 0 then (none) else (r4Mul.l3 k (x9.set ((wrap64 ((wrap64 (x12 - x197001)) + x13)) : Int).toNat (Int.tmod (wrap64 ((rd x9 (wrap64 ((wrap64 (x12 - x197001)) + x13))) + (wrap64 ((wrap64 (x197000 - (rd x9 x12))) * (rd x197002 x13))))) x197000)) x12 (wrap64 (x13 + 1)) x197000 x197001 x197002)) else (none)) else (none)) else (none)) else (none)) else (none)) else (none)) else (r4Mul.l2 k x9 (wrap64 (x12 - 1)) x197000 x197001 x197002)
end
def r4Mul.f (k : Nat) (a0_0 : Int) (a0_1 : Int) (l0_2 : List Int) (a1 : Int) (a2 : Int) : Option (Int) := (r4Digits.f k a0_0 a0_1 l0_2 a1).bind fun t197 => ((r4Digits.f k a0_0 a0_1 l0_2 a2).bind fun t200 => (if 0 ≤ (wrap64 ((wrap64 (2 * a0_1)) - 1)) then (if (wrap64 ((wrap64 (2 * a0_1)) - 1) : Int).toNat ≤ 35184372088832 then (r4Mul.l0 k t197 t200 (List.replicate (wrap64 ((wrap64 (2 * a0_1)) - 1) : Int).toNat 0) 0 a0_0 a0_1 l0_2) else (none)) else (none)))
def r4Mul.T10 : Bool × List (List Nat × List Nat) := (true, [([], []), ([], []), ([], []), ([1, 2], [1, 2]), ([], []), ([], []), ([], []), ([5, 6], [5, 6]), ([4, 7], [4, 7]), ([8], [8]), ([], []), ([], []), ([10, 11], [10, 11]), ([12], [12]), ([], []), ([], []), ([14, 15], [14, 15]), ([16], [16]), ([13, 17], [13, 17]), ([9, 18], [9, 18]), ([], []), ([20], [20]), ([19, 21], [19, 21]), ([0, 3, 0, 1, 2, 3, 4, 5, 6, 7, 8, 9, 10, 11, 12, 13, 14, 15, 16, 17, 18, 19, 20, 21, 22], [0, 3]), ([23, 22, 0, 1, 2, 3, 4, 5, 6, 7, 8, 9, 10, 11, 12, 13, 14, 15, 16, 17, 18, 19, 20, 21, 22], [22, 23])])
def r4Mul.B10 : List Nat := [0, 0, 0, 6, 0, 0, 0, 96, 240, 496, 0, 0, 3072, 7168, 0, 0, 49152, 114688, 261120, 524272, 0, 1048576, 4194288, 8388607, 16777215]
theorem r4Mul.tab10 : rtab .any (opsOf Try.f18 10) = r4Mul.T10 := by kernel_rfl
theorem r4Mul.bits10 : waitsOk r4Mul.T10.2 r4Mul.B10 = true := by kernel_rfl
def r4Mul.T17 : Bool × List (List Nat × List Nat) := (true, [([], []), ([], []), ([], []), ([2], [2]), ([1, 3], [1, 3]), ([], []), ([4, 5], [4, 5]), ([], []), ([], []), ([], []), ([9], [9]), ([8, 10], [8, 10]), ([], []), ([11, 12], [11, 12]), ([7, 13], [7, 13]), ([14], [14]), ([], []), ([16], [16]), ([], []), ([], []), ([18, 19], [18, 19]), ([20], [20]), ([17, 21], [17, 21]), ([], []), ([23], [23]), ([], []), ([24, 25], [24, 25]), ([26], [26]), ([22, 27], [22, 27]), ([15, 28], [15, 28]), ([], []), ([30], [30]), ([29, 31], [29, 31]), ([0, 6, 0, 1, 2, 3, 4, 5, 6, 7, 8, 9, 10, 11, 12, 13, 14, 15, 16, 17, 18, 19, 20, 21, 22, 23, 24, 25, 26, 27, 28, 29, 30, 31, 32], [0, 6]), ([33, 32, 0, 1, 2, 3, 4, 5, 6, 7, 8, 9, 10, 11, 12, 13, 14, 15, 16, 17, 18, 19, 20, 21, 22, 23, 24, 25, 26, 27, 28, 29, 30, 31, 32], [32, 33])])
def r4Mul.B17 : List Nat := [0, 0, 0, 4, 14, 0, 62, 0, 0, 0, 512, 1792, 0, 7936, 16256, 32640, 0, 65536, 0, 0, 786432, 1835008, 4128768, 0, 8388608, 0, 58720256, 125829120, 268369920, 536870784, 0, 1073741824, 4294967168, 8589934591, 17179869183]
theorem r4Mul.tab17 : rtab .any (opsOf Try.f18 17) = r4Mul.T17 := by kernel_rfl
theorem r4Mul.bits17 : waitsOk r4Mul.T17.2 r4Mul.B17 = true := by kernel_rfl
set_option maxHeartbeats 8000000 in
set_option maxRecDepth 100000 in
theorem r4Mul.calls (k : Nat) (a0_0 : Int) (a0_1 : Int) (A0_2 : Option Addr) (c0_2 : Nat) (l0_2 : List Int) (a1 : Int) (a2 : Int) (r : Int) (w : World) (hr0_2 : Kd.C (Kd.int .i64) w A0_2 l0_2.length l0_2) (hc0_2 : l0_2.length ≤ c0_2) (h : r4Mul.f k a0_0 a0_1 l0_2 a1 a2 = some r) :
  Calls Try.prog 18 #[.agg #[.int .i64 a0_0, .int .i64 a0_1, .slice A0_2 l0_2.length c0_2], .int .i64 a1, .int .i64 a2] w fun e w' => e = .returned (.int .i64 r) ∧ Below w.heap.size w w' := by
 have hu24 := Try.underlying24
 have HR0_2 := Q9a.mk hr0_2
 have HC0_2 := Q9a.mk hc0_2
 clear hr0_2 hc0_2
 have HB := Q9a.mk (Below.refl w.heap.size w)
 have H : ((r4Digits.f k a0_0 a0_1 l0_2 a1).bind fun t197 => ((r4Digits.f k a0_0 a0_1 l0_2 a2).bind fun t200 => (if 0 ≤ (wrap64 ((wrap64 (2 * a0_1)) - 1)) then (if (wrap64 ((wrap64 (2 * a0_1)) - 1) : Int).toNat ≤ 35184372088832 then (r4Mul.l0 k t197 t200 (List.replicate (wrap64 ((wrap64 (2 * a0_1)) - 1) : Int).toNat 0) 0 a0_0 a0_1 l0_2) else (none)) else (none)))) = some r := h
 clear h
 replace H := Option.bind_eq_some_iff.mp H
 obtain ⟨t197, A40, H⟩ := H
 replace H : ((r4Digits.f k a0_0 a0_1 l0_2 a2).bind fun t200 => (if 0 ≤ (wrap64 ((wrap64 (2 * a0_1)) - 1)) then (if (wrap64 ((wrap64 (2 * a0_1)) - 1) : Int).toNat ≤ 35184372088832 then (r4Mul.l0 k t197 t200 (List.replicate (wrap64 ((wrap64 (2 * a0_1)) - 1) : Int).toNat 0) 0 a0_0 a0_1 l0_2) else (none)) else (none))) = some r := H
 have A4 := Q9a.mk A40
 clear A40
 replace H := Option.bind_eq_some_iff.mp H
 obtain ⟨t200, A50, H⟩ := H
 replace H : (if 0 ≤ (wrap64 ((wrap64 (2 * a0_1)) - 1)) then (if (wrap64 ((wrap64 (2 * a0_1)) - 1) : Int).toNat ≤ 35184372088832 then (r4Mul.l0 k t197 t200 (List.replicate (wrap64 ((wrap64 (2 * a0_1)) - 1) : Int).toNat 0) 0 a0_0 a0_1 l0_2) else (none)) else (none)) = some r := H
 have A5 := Q9a.mk A50
 clear A50
 obtain ⟨ji6, hji6⟩ : ∃ j_ : Int, (wrap64 ((wrap64 (2 * a0_1)) - 1)) = j_ := ⟨_, rfl⟩
 replace H : (if 0 ≤ (ji6) then (if (ji6 : Int).toNat ≤ 35184372088832 then (r4Mul.l0 k t197 t200 (List.replicate (ji6 : Int).toNat 0) 0 a0_0 a0_1 l0_2) else (none)) else (none)) = some r := by first | (rw [hji6] at H; exact H) | (simp only [hji6] at H ⊢; exact H)
 (try rw [hji6] at A4)
 (try rw [hji6] at A5)
 have hji6w : (IntKind.i64.wrap ((wrap64 (2 * a0_1)) - 1)) = ji6 := (i64_w _).trans hji6
 by_cases c7 : 0 ≤ (ji6)
 ·rw [if_pos c7] at H
  have c7b0 := eq_true c7
  have c7b1 : decide (0 ≤ (ji6)) = true := decide_eq_true c7
  clear c7
  by_cases c8 : (ji6 : Int).toNat ≤ 35184372088832
  ·rw [if_pos c8] at H
   have c8b0 := eq_true c8
   have c8b1 : decide ((ji6 : Int).toNat ≤ 35184372088832) = true := decide_eq_true c8
   clear c8
   obtain ⟨y203, hy203⟩ : ∃ y_ : List Int, y_ = (List.replicate (ji6 : Int).toNat 0) := ⟨_, rfl⟩
   replace H : (r4Mul.l0 k t197 t200 y203 0 a0_0 a0_1 l0_2) = some r := by first | (rw [hy203]; with_reducible exact H) | (have H2_ := (Option.bind_some _ _).symm.trans H; rw [hy203]; with_reducible exact H2_) | (have H2_ := (Option.bind_some _ _).symm.trans H; with_reducible exact H2_) | with_reducible exact H | (rw [hy203]; exact H) | exact H
   have Ny203 := Q9a.mk hy203
   clear hy203
   have H' := Q9a.mk H
   clear H
   go_enter Try.func18, Try.ntmps18
   go_wp2_with (first | ((with_reducible refine gate_dst (N := 3) rfl ?_); refine box_event ?hg (N := 3) ?hd (cs := #[.int .i64 a0_0, .int .i64 a0_1, .slice A0_2 l0_2.length c0_2]) (t := 24) ?hr ?_; (case hd => rfl); (case hg => rfl); (case hr => first | (go_simp; done) | (go_simp; rfl)); intro gb196 hg w9 hbox hb; have n0_ := Q9a.mk (bP (by repeat (first | (with_reducible first | exact HB.out | apply bA | apply bN | apply bD) | exact HB.out)) hb); have n1_ := Q9a.mk (hbox); have n2_ := Q9a.mk ((by rw [hg]; exact (bZ (by repeat (first | (with_reducible first | exact HB.out | apply bA | apply bN | apply bD) | exact HB.out))) : w.heap.size ≤ gb196)); have n3_ := Q9a.mk ((by rw [hg]; exact (bZ (by repeat (first | (with_reducible first | exact HB.out | apply bA | apply bN | apply bD) | exact HB.out))) : w.heap.size ≤ gb196)); clear HB; have HB := n0_; have BK196 := n1_; have GW196 := n2_; have GE196 := n3_; clear n0_ n1_ n2_ n3_; clear hb hbox hg; have hcz10_0 : w9.cell? ⟨gb196, 0, none⟩ = some (.int .i64 a0_0) := (kC BK196.out 0).trans rfl; have hcz10_1 : w9.cell? ⟨gb196, 1, none⟩ = some (.int .i64 a0_1) := (kC BK196.out 1).trans rfl; have hcz10_2 : w9.cell? ⟨gb196, 2, none⟩ = some (.slice A0_2 l0_2.length c0_2) := (kC BK196.out 2).trans rfl; have hfz10_0 := kF BK196.out 0; have hfz10_1 := kF BK196.out 1; have hfz10_2 := kF BK196.out 2) | ((with_reducible refine gate_callee (f := 43) rfl ?_); refine goesL_ (some 16) rfl rfl Try.func43 (by kernel_rfl) rfl #[.agg #[.int .i64 a0_0, .int .i64 a0_1, .slice A0_2 l0_2.length c0_2], .int .i64 a1] rfl (by (try simp only [List.map_toArray, List.map_cons, List.map_nil]); first | done | rfl | (simp only [List.length_drop, List.length_take]; rfl)) ?_; (with_reducible refine (r4Digits.calls k a0_0 a0_1 _ _ l0_2 a1 t197 _ ?side1 ?side2 A4.out).mono ?_); (case side1 => repeat (first | exact (Kd.C_below HR0_2.out HB.out) | (with_reducible refine Kd.C_alloc ?_ _) | (with_reducible refine Kd.C_drewN ?_ _) | (with_reducible refine Kd.C_drew ?_))); (case side2 => exact HC0_2.out); rintro e w11 ⟨v198, rfl, ho0, hb⟩; refine ⟨_, rfl, ?_⟩; have n0_ := Q9a.mk (Kd.R_lower ho0 (bZ (by repeat (first | (with_reducible first | exact HB.out | apply bA | apply bN | apply bD | refine bS ?_ GE196.out) | exact HB.out)))); have n1_ := Q9a.mk (kB (g := gb196) (o := .cells #[.int .i64 a0_0, .int .i64 a0_1, .slice A0_2 l0_2.length c0_2] 24 (0, 0)) (by (with_reducible repeat (first | refine kN ?_ _ | refine kD ?_ | refine kA ?_ _)); exact BK196.out) hb); have n2_ := Q9a.mk (bP (by repeat (first | (with_reducible first | exact HB.out | apply bA | apply bN | apply bD | refine bS ?_ GE196.out) | exact HB.out)) hb); clear BK196; clear HB; have HO199 := n0_; have BK196 := n1_; have HB := n2_; clear n0_ n1_ n2_; (try clear hb); (try clear hb2); (try clear hk); (try clear hi); (try clear ho0); have hcz12_0 : w11.cell? ⟨gb196, 0, none⟩ = some (.int .i64 a0_0) := (kC BK196.out 0).trans rfl; have hcz12_1 : w11.cell? ⟨gb196, 1, none⟩ = some (.int .i64 a0_1) := (kC BK196.out 1).trans rfl; have hcz12_2 : w11.cell? ⟨gb196, 2, none⟩ = some (.slice A0_2 l0_2.length c0_2) := (kC BK196.out 2).trans rfl; have hfz12_0 := kF BK196.out 0; have hfz12_1 := kF BK196.out 1; have hfz12_2 := kF BK196.out 2) | ((with_reducible refine gate_callee (f := 43) rfl ?_); refine goesL_ (some 19) rfl rfl Try.func43 (by kernel_rfl) rfl #[.agg #[.int .i64 a0_0, .int .i64 a0_1, .slice A0_2 l0_2.length c0_2], .int .i64 a2] rfl (by (try simp only [List.map_toArray, List.map_cons, List.map_nil]); first | done | rfl | (simp only [List.length_drop, List.length_take]; rfl)) ?_; (with_reducible refine (r4Digits.calls k a0_0 a0_1 _ _ l0_2 a2 t200 _ ?side1 ?side2 A5.out).mono ?_); (case side1 => repeat (first | exact (Kd.C_below HR0_2.out HB.out) | (with_reducible refine Kd.C_alloc ?_ _) | (with_reducible refine Kd.C_drewN ?_ _) | (with_reducible refine Kd.C_drew ?_))); (case side2 => exact HC0_2.out); rintro e w13 ⟨v201, rfl, ho0, hb⟩; refine ⟨_, rfl, ?_⟩; have n0_ := Q9a.mk (Kd.R_elder' (by (with_reducible repeat (first | apply Kd.R_alloc | apply Kd.R_drewN | apply Kd.R_drew)); exact HO199.out) (Kd.R_base ho0) hb); have n1_ := Q9a.mk (Kd.R_lower (Kd.R_new' ho0 (Kd.R_lt (by (with_reducible repeat (first | apply Kd.R_alloc | apply Kd.R_drewN | apply Kd.R_drew)); exact HO199.out))) (bZ (by repeat (first | (with_reducible first | exact HB.out | apply bA | apply bN | apply bD | refine bS ?_ GE196.out) | exact HB.out)))); have n2_ := Q9a.mk (kB (g := gb196) (o := .cells #[.int .i64 a0_0, .int .i64 a0_1, .slice A0_2 l0_2.length c0_2] 24 (0, 0)) (by (with_reducible repeat (first | refine kN ?_ _ | refine kD ?_ | refine kA ?_ _)); exact BK196.out) hb); have n3_ := Q9a.mk (bP (by repeat (first | (with_reducible first | exact HB.out | apply bA | apply bN | apply bD | refine bS ?_ GE196.out) | exact HB.out)) hb); clear HO199; clear BK196; clear HB; have HO199 := n0_; have HO202 := n1_; have BK196 := n2_; have HB := n3_; clear n0_ n1_ n2_ n3_; (try clear hb); (try clear hb2); (try clear hk); (try clear hi); (try clear ho0); have hcz14_0 : w13.cell? ⟨gb196, 0, none⟩ = some (.int .i64 a0_0) := (kC BK196.out 0).trans rfl; have hcz14_1 : w13.cell? ⟨gb196, 1, none⟩ = some (.int .i64 a0_1) := (kC BK196.out 1).trans rfl; have hcz14_2 : w13.cell? ⟨gb196, 2, none⟩ = some (.slice A0_2 l0_2.length c0_2) := (kC BK196.out 2).trans rfl; have hfz14_0 := kF BK196.out 0; have hfz14_1 := kF BK196.out 1; have hfz14_2 := kF BK196.out 2) | ((with_reducible refine gate_dst (N := 24) rfl ?_); refine Kd.R_make (Kd.int .i64) _ 3 rfl (N := 24) rfl 22 _ _ rfl ji6 rfl rfl Try.underlying22 (.int .i64 0) 8 info3 rfl (by decide) (by omega) 0 (ok := fun _ => True) (okp := fun _ => True) rfl (fun _ hk => hk) trivial (of_decide_eq_true (by first | (with_reducible assumption) | assumption)) (Nat.le_trans (Nat.mul_le_mul_right _ (of_decide_eq_true (by first | (with_reducible assumption) | assumption) : ji6.toNat ≤ 35184372088832)) (by omega)) (Below.refl _ _) (Nat.le_refl _) ?_; intro v204 w15 ho16 hb hg_ hnew_; clear hg_ hnew_; (first | rw [← Ny203.out] at ho16 | (simp only [Int.reduceToNat] at ho16; rw [← Ny203.out] at ho16)); have n0_ := Q9a.mk (Kd.R_elder' (by (with_reducible repeat (first | apply Kd.R_alloc | apply Kd.R_drewN | apply Kd.R_drew)); exact HO199.out) (Kd.R_base ho16) hb); have n1_ := Q9a.mk (Kd.R_elder' (by (with_reducible repeat (first | apply Kd.R_alloc | apply Kd.R_drewN | apply Kd.R_drew)); exact HO202.out) (Kd.R_base ho16) hb); have n2_ := Q9a.mk (Kd.R_lower (Kd.R_new' (Kd.R_new' ho16 (Kd.R_lt (by (with_reducible repeat (first | apply Kd.R_alloc | apply Kd.R_drewN | apply Kd.R_drew)); exact HO199.out))) (Kd.R_lt (by (with_reducible repeat (first | apply Kd.R_alloc | apply Kd.R_drewN | apply Kd.R_drew)); exact HO202.out))) (bZ (by repeat (first | (with_reducible first | exact HB.out | apply bA | apply bN | apply bD | refine bS ?_ GE196.out) | exact HB.out)))); have n3_ := Q9a.mk (kB (g := gb196) (o := .cells #[.int .i64 a0_0, .int .i64 a0_1, .slice A0_2 l0_2.length c0_2] 24 (0, 0)) (by (with_reducible repeat (first | refine kN ?_ _ | refine kD ?_ | refine kA ?_ _)); exact BK196.out) hb); have n4_ := Q9a.mk (bP (by repeat (first | (with_reducible first | exact HB.out | apply bA | apply bN | apply bD | refine bS ?_ GE196.out) | exact HB.out)) hb); clear HO199; clear HO202; clear BK196; clear HB; have HO199 := n0_; have HO202 := n1_; have HO205 := n2_; have BK196 := n3_; have HB := n4_; clear n0_ n1_ n2_ n3_ n4_; clear hb ho16))
   go_loopg [10] k (fun kq v10 w' => ∃ (x9_1 : List Int) (x10_1 : Int), v10 = .int .i64 x10_1 ∧ Q9a (r4Mul.l0 kq t197 t200 x9_1 x10_1 a0_0 a0_1 l0_2 = some r) ∧ Q9a (kq ≤ k) ∧ Q9a (Kd.R (Kd.int .i64) 3 w' w.heap.size (fun k_ => some k_ ≠ (v201 : Value).ownBlock ∧ some k_ ≠ (v204 : Value).ownBlock) v198 t197) ∧ Q9a (Kd.R (Kd.int .i64) 3 w' w.heap.size (fun k_ => some k_ ≠ (v198 : Value).ownBlock ∧ some k_ ≠ (v204 : Value).ownBlock) v201 t200) ∧ Q9a (Kd.R (Kd.int .i64) 3 w' w.heap.size (fun k_ => some k_ ≠ (v198 : Value).ownBlock ∧ some k_ ≠ (v201 : Value).ownBlock) v204 x9_1) ∧ Q9a (w'.heap[gb196]? = some (.cells #[.int .i64 a0_0, .int .i64 a0_1, (.slice A0_2 l0_2.length c0_2)] 24 (0, 0))) ∧ Q9a (Below w.heap.size w w'))
   case atStart => exact ⟨(y203), (0), (by first | rfl | (simp; done) | (simp [*]; done)), H', ⟨Nat.le_refl _⟩, ⟨by (with_reducible repeat (first | apply Kd.R_alloc | apply Kd.R_drewN | apply Kd.R_drew)); exact Kd.R_mono HO199.out (fun _ hk => ⟨hk.1.2, hk.2⟩)⟩, ⟨by (with_reducible repeat (first | apply Kd.R_alloc | apply Kd.R_drewN | apply Kd.R_drew)); exact Kd.R_mono HO202.out (fun _ hk => ⟨hk.1.2, hk.2⟩)⟩, ⟨by (with_reducible repeat (first | apply Kd.R_alloc | apply Kd.R_drewN | apply Kd.R_drew)); exact Kd.R_mono HO205.out (fun _ hk => ⟨hk.1.2, hk.2⟩)⟩, ⟨by (with_reducible repeat (first | refine kN ?_ _ | refine kD ?_ | refine kA ?_ _)); exact BK196.out⟩, ⟨by repeat (first | (with_reducible first | exact HB.out | apply bA | apply bN | apply bD | refine bS ?_ GE196.out) | exact HB.out)⟩⟩
   case round =>
    clear H'
    try clear c1
    try clear p2
    try clear c4
    try clear p6
    try clear c7
    try clear c7b0
    try clear c7b1
    try clear c8
    try clear c8b0
    try clear c8b1
    try clear hcz10_0
    try clear hcz10_1
    try clear hcz10_2
    try clear hcz12_0
    try clear hcz12_1
    try clear hcz12_2
    try clear hcz14_0
    try clear hcz14_1
    try clear hcz14_2
    try clear hfz10_0
    try clear hfz10_1
    try clear hfz10_2
    try clear hfz12_0
    try clear hfz12_1
    try clear hfz12_2
    try clear hfz14_0
    try clear hfz14_1
    try clear hfz14_2
    obtain ⟨x9_1, x10_1, rfl, HA, HK1, HO_7, HO_8, HO_9, BK196, HB⟩ := hrel
    cases gk with
    | zero => exact absurd HA.out (by simp [r4Mul.l0])
    | succ k1 =>
     have H := HA.out
     clear HA
     simp only [r4Mul.l0] at H
     by_cases c17 : x10_1 < a0_1
     ·rw [if_pos c17] at H
      have c17b0 : decide (x10_1 < a0_1) = true := decide_eq_true c17
      clear c17
      have H' := Q9a.mk H
      clear H
      have hcz18_0 : wr.cell? ⟨gb196, 0, none⟩ = some (.int .i64 a0_0) := (kC BK196.out 0).trans rfl
      have hcz18_1 : wr.cell? ⟨gb196, 1, none⟩ = some (.int .i64 a0_1) := (kC BK196.out 1).trans rfl
      have hcz18_2 : wr.cell? ⟨gb196, 2, none⟩ = some (.slice A0_2 l0_2.length c0_2) := (kC BK196.out 2).trans rfl
      have hfz18_0 := kF BK196.out 0
      have hfz18_1 := kF BK196.out 1
      have hfz18_2 := kF BK196.out 2
      go_wp2
      go_loopg [11] k1 (fun kq v11 w' => ∃ (x9_2 : List Int) (x11_2 : Int), v11 = .int .i64 x11_2 ∧ Q9a (r4Mul.l1 kq t197 t200 x9_2 x10_1 x11_2 a0_0 a0_1 l0_2 = some r) ∧ Q9a (kq ≤ k1) ∧ Q9a (Kd.R (Kd.int .i64) 3 w' w.heap.size (fun k_ => some k_ ≠ (v201 : Value).ownBlock ∧ some k_ ≠ (v204 : Value).ownBlock) v198 t197) ∧ Q9a (Kd.R (Kd.int .i64) 3 w' w.heap.size (fun k_ => some k_ ≠ (v198 : Value).ownBlock ∧ some k_ ≠ (v204 : Value).ownBlock) v201 t200) ∧ Q9a (Kd.R (Kd.int .i64) 3 w' w.heap.size (fun k_ => some k_ ≠ (v198 : Value).ownBlock ∧ some k_ ≠ (v201 : Value).ownBlock) v204 x9_2) ∧ Q9a (w'.heap[gb196]? = some (.cells #[.int .i64 a0_0, .int .i64 a0_1, (.slice A0_2 l0_2.length c0_2)] 24 (0, 0))) ∧ Q9a (Below w.heap.size w w'))
      case atStart => exact ⟨(x9_1), (0), (by first | rfl | (simp; done) | (simp [*]; done)), H', ⟨Nat.le_refl _⟩, ⟨by (with_reducible repeat (first | apply Kd.R_alloc | apply Kd.R_drewN | apply Kd.R_drew)); exact HO_7.out⟩, ⟨by (with_reducible repeat (first | apply Kd.R_alloc | apply Kd.R_drewN | apply Kd.R_drew)); exact HO_8.out⟩, ⟨by (with_reducible repeat (first | apply Kd.R_alloc | apply Kd.R_drewN | apply Kd.R_drew)); exact HO_9.out⟩, ⟨by (with_reducible repeat (first | refine kN ?_ _ | refine kD ?_ | refine kA ?_ _)); exact BK196.out⟩, ⟨by repeat (first | (with_reducible first | exact HB.out | apply bA | apply bN | apply bD | refine bS ?_ GE196.out) | exact HB.out)⟩⟩
      case round =>
       clear H'
       try clear c1
       try clear p2
       try clear c4
       try clear p6
       try clear c7
       try clear c7b0
       try clear c7b1
       try clear c8
       try clear c8b0
       try clear c8b1
       try clear c17
       try clear c17b0
       try clear c18
       try clear hcz10_0
       try clear hcz10_1
       try clear hcz10_2
       try clear hcz12_0
       try clear hcz12_1
       try clear hcz12_2
       try clear hcz14_0
       try clear hcz14_1
       try clear hcz14_2
       try clear hcz18_0
       try clear hcz18_1
       try clear hcz18_2
       try clear hfz10_0
       try clear hfz10_1
       try clear hfz10_2
       try clear hfz12_0
       try clear hfz12_1
       try clear hfz12_2
       try clear hfz14_0
       try clear hfz14_1
       try clear hfz14_2
       try clear hfz18_0
       try clear hfz18_1
       try clear hfz18_2
       try clear p2
       try clear p6
       obtain ⟨x9_2, x11_2, rfl, HA, HK2, HO_7, HO_8, HO_9, BK196, HB⟩ := hrel
       cases gk with
       | zero => exact absurd HA.out (by simp [r4Mul.l1])
       | succ k2 =>
        have H := HA.out
        clear HA
        simp only [r4Mul.l1] at H
        by_cases c19 : x11_2 < a0_1
        ·rw [if_pos c19] at H
         have c19b0 : decide (x11_2 < a0_1) = true := decide_eq_true c19
         clear c19
         obtain ⟨ji20, hji20⟩ : ∃ j_ : Int, (wrap64 (x10_1 + x11_2)) = j_ := ⟨_, rfl⟩
         replace H : (if 0 ≤ (ji20) then (if (ji20) < (x9_2.length : Int) then (if 0 ≤ x10_1 then (if x10_1 < (t197.length : Int) then (if 0 ≤ x11_2 then (if x11_2 < (t200.length : Int) then (if a0_0 = 0 then (none) else (r4Mul.l1 k2 t197 t200 (x9_2.set ((ji20) : Int).toNat (Int.tmod (wrap64 ((rd x9_2 (ji20)) + (wrap64 ((rd t197 x10_1) * (rd t200 x11_2))))) a0_0)) x10_1 (wrap64 (x11_2 + 1)) a0_0 a0_1 l0_2)) else (none)) else (none)) else (none)) else (none)) else (none)) else (none)) = some r := by first | (rw [hji20] at H; exact H) | (simp only [hji20] at H ⊢; exact H)
         have hji20w : (IntKind.i64.wrap (x10_1 + x11_2)) = ji20 := (i64_w _).trans hji20
         by_cases c21 : 0 ≤ (ji20)
         ·rw [if_pos c21] at H
          have c21b0 : decide (0 ≤ (ji20)) = true := decide_eq_true c21
          clear c21
          by_cases c22 : (ji20) < (x9_2.length : Int)
          ·rw [if_pos c22] at H
           have c22b0 : decide ((ji20) < (x9_2.length : Int)) = true := decide_eq_true c22
           clear c22
           by_cases c23 : 0 ≤ x10_1
           ·rw [if_pos c23] at H
            have c23b0 : decide (0 ≤ x10_1) = true := decide_eq_true c23
            clear c23
            by_cases c24 : x10_1 < (t197.length : Int)
            ·rw [if_pos c24] at H
             have c24b0 : decide (x10_1 < (t197.length : Int)) = true := decide_eq_true c24
             clear c24
             by_cases c25 : 0 ≤ x11_2
             ·rw [if_pos c25] at H
              have c25b0 : decide (0 ≤ x11_2) = true := decide_eq_true c25
              clear c25
              by_cases c26 : x11_2 < (t200.length : Int)
              ·rw [if_pos c26] at H
               have c26b0 : decide (x11_2 < (t200.length : Int)) = true := decide_eq_true c26
               clear c26
               by_cases c27 : a0_0 = 0
               ·rw [if_pos c27] at H
                exact absurd H (by simp)
               ·rw [if_neg c27] at H
                have c27b0 : (a0_0 == 0) = false := beq_eq_false_iff_ne.mpr c27
                have c27b1 : (a0_0 != 0) = true := bne_iff_ne.mpr c27
                obtain ⟨y209, hy209⟩ : ∃ y_ : List Int, y_ = (x9_2.set ((ji20) : Int).toNat (Int.tmod (wrap64 ((rd x9_2 (ji20)) + (wrap64 ((rd t197 x10_1) * (rd t200 x11_2))))) a0_0)) := ⟨_, rfl⟩
                replace H : (r4Mul.l1 k2 t197 t200 y209 x10_1 (wrap64 (x11_2 + 1)) a0_0 a0_1 l0_2) = some r := by first | (rw [hy209]; with_reducible exact H) | (have H2_ := (Option.bind_some _ _).symm.trans H; rw [hy209]; with_reducible exact H2_) | (have H2_ := (Option.bind_some _ _).symm.trans H; with_reducible exact H2_) | with_reducible exact H | (rw [hy209]; exact H) | exact H
                have Ny209 := Q9a.mk hy209
                clear hy209
                have H' := Q9a.mk H
                clear H
                have hcz29_0 : wr.cell? ⟨gb196, 0, none⟩ = some (.int .i64 a0_0) := (kC BK196.out 0).trans rfl
                have hcz29_1 : wr.cell? ⟨gb196, 1, none⟩ = some (.int .i64 a0_1) := (kC BK196.out 1).trans rfl
                have hcz29_2 : wr.cell? ⟨gb196, 2, none⟩ = some (.slice A0_2 l0_2.length c0_2) := (kC BK196.out 2).trans rfl
                have hfz29_0 := kF BK196.out 0
                have hfz29_1 := kF BK196.out 1
                have hfz29_2 := kF BK196.out 2
                try go_wp2
                have n0_ := Q9a.mk (Kd.R_drew HO_7.out)
                have n1_ := Q9a.mk (Kd.R_drew HO_8.out)
                have n2_ := Q9a.mk (Kd.R_drew HO_9.out)
                have n3_ := Q9a.mk (kD BK196.out)
                have n4_ := Q9a.mk (bD HB.out)
                clear HO_7
                clear HO_8
                clear HO_9
                clear BK196
                clear HB
                have HO_7 := n0_
                have HO_8 := n1_
                have HO_9 := n2_
                have BK196 := n3_
                have HB := n4_
                clear n0_ n1_ n2_ n3_ n4_
                obtain ⟨Ao31, co31, eo31⟩ := Kd.R_slice HO_9.out
                (first | subst eo31 | (injection eo31 with f1_ f2_ f3_; have f4_ := f1_.symm; have f5_ := f3_.symm; clear f1_ f2_ f3_; subst f4_; subst f5_))
                have p206 : 0 ≤ ((ji20) : Int) := of_decide_eq_true (by first | (with_reducible assumption) | assumption)
                have q206 : (ji20) < (x9_2.length : Int) := of_decide_eq_true (by first | (with_reducible assumption) | assumption)
                obtain ⟨ad206, e206, hx206_0⟩ := Kd.at_int (Kd.R_reads' HO_9.out).2.2 (ji20) p206 q206
                cases e206
                replace p206 := eq_true p206
                replace q206 := eq_true q206
                obtain ⟨Ao32, co32, eo32⟩ := Kd.R_slice HO_7.out
                (first | subst eo32 | (injection eo32 with f1_ f2_ f3_; have f4_ := f1_.symm; have f5_ := f3_.symm; clear f1_ f2_ f3_; subst f4_; subst f5_))
                have p207 : 0 ≤ (x10_1 : Int) := of_decide_eq_true (by first | (with_reducible assumption) | assumption)
                have q207 : x10_1 < (t197.length : Int) := of_decide_eq_true (by first | (with_reducible assumption) | assumption)
                obtain ⟨ad207, e207, hx207_0⟩ := Kd.at_int (Kd.R_reads' HO_7.out).2.2 x10_1 p207 q207
                cases e207
                replace p207 := eq_true p207
                replace q207 := eq_true q207
                obtain ⟨Ao33, co33, eo33⟩ := Kd.R_slice HO_8.out
                (first | subst eo33 | (injection eo33 with f1_ f2_ f3_; have f4_ := f1_.symm; have f5_ := f3_.symm; clear f1_ f2_ f3_; subst f4_; subst f5_))
                have p208 : 0 ≤ (x11_2 : Int) := of_decide_eq_true (by first | (with_reducible assumption) | assumption)
                have q208 : x11_2 < (t200.length : Int) := of_decide_eq_true (by first | (with_reducible assumption) | assumption)
                obtain ⟨ad208, e208, hx208_0⟩ := Kd.at_int (Kd.R_reads' HO_8.out).2.2 x11_2 p208 q208
                cases e208
                replace p208 := eq_true p208
                replace q208 := eq_true q208
                have p28 : 0 ≤ ((ji20) : Int) := of_decide_eq_true (by first | (with_reducible assumption) | assumption)
                have q28 : ((ji20) : Int) < ((x9_2.length : Int) : Int) := of_decide_eq_true (by first | (with_reducible assumption) | assumption)
                obtain ⟨go28, co28, eo28, gb28, gl28, cl28, HG28⟩ := Kd.R_form HO_9.out (by omega)
                (first | cases eo28 | (injection eo28 with ea_ en_ ec_; (first | subst ea_ | (injection ea_ with ea_; subst ea_)); subst ec_; clear en_))
                have GB28 := Q9a.mk gb28
                have GG28 := Q9a.mk HG28
                clear gb28 gl28 HG28
                (first | simp only [add_plain] at hx206_0 | skip)
                obtain ⟨hx28_0, hf28_0⟩ := Kd.R_celln 0 HO_9.out ((ji20) : Int) p28 q28
                replace p28 := eq_true p28
                replace q28 := eq_true q28
                have HP34 := Kd.R_putn HO_9.out ((ji20) : Int) (Int.tmod (wrap64 ((rd x9_2 (ji20)) + (wrap64 ((rd t197 x10_1) * (rd t200 x11_2))))) a0_0)
                rw [← Ny209.out] at HP34
                have HQ34 := Q9a.mk HP34
                clear HP34
                refine start_ (n := 25) (S := fun w' => w'.cell? ⟨gb196, 0, none⟩ = some (.int .i64 a0_0) ∧ w'.cell? ⟨gb196, 1, none⟩ = some (.int .i64 a0_1) ∧ w'.cell? ⟨gb196, 2, none⟩ = some (.slice A0_2 l0_2.length c0_2) ∧ w'.cell? ⟨go28, ((ji20)).toNat, none⟩ = some (.int .i64 (rd x9_2 (ji20))) ∧ w'.cell? (ad207.add (x10_1).toNat) = some (.int .i64 (rd t197 x10_1)) ∧ w'.cell? (ad208.add (x11_2).toNat) = some (.int .i64 (rd t200 x11_2))) (ds := [24]) #[false, false, false, false, false, false, false, false, false, false, false, false, false, false, false, false, false, false, false, false, false, false, false, false, false] (by kernel_rfl) rfl rfl ⟨(kC BK196.out 0).trans rfl, (kC BK196.out 1).trans rfl, (kC BK196.out 2).trans rfl, hx206_0, hx207_0, hx208_0⟩ (fun hHeld => ?_); refine with_tabW r4Mul.tab10 r4Mul.bits10 (fun HT_ HW_ => ?_)
                generalize wr.drew = w30 at HO_7 HO_8 HO_9 BK196 HB GG28 HQ34 hf28_0 hx206_0 hx207_0 hx208_0 hx28_0 hHeld ⊢
                refine pure_ (i := 0) (N := some 37) (v := ?_) (a' := ?_) #[true, false, false, false, false, false, false, false, false, false, false, false, false, false, false, false, false, false, false, false, false, false, false, false, false] rfl rfl (any_of HT_.out (by kernel_rfl)) (fun _ _ _ h => h) (Or.inl ⟨by rfl, ?_⟩) ?_ ?_
                rotate_left
                ·intro w'
                 go_simp
                 with_reducible rfl
                rotate_left
                ·simp only [Act.put, sz1, sz2, sz3, i64_w, i32_w]
                 rfl
                refine pure_ (i := 1) (N := some 38) (v := ?_) (a' := ?_) #[true, true, false, false, false, false, false, false, false, false, false, false, false, false, false, false, false, false, false, false, false, false, false, false, false] rfl rfl (any_of HT_.out (by kernel_rfl)) (fun _ _ _ h => h) (Or.inl ⟨by rfl, ?_⟩) ?_ ?_
                rotate_left
                ·intro w'
                 go_simp
                 with_reducible rfl
                rotate_left
                ·simp only [Act.put, sz1, sz2, sz3, i64_w, i32_w]
                 rfl
                refine pure_ (i := 2) (N := some 39) (v := ?_) (a' := ?_) #[true, true, true, false, false, false, false, false, false, false, false, false, false, false, false, false, false, false, false, false, false, false, false, false, false] rfl rfl (any_of HT_.out (by kernel_rfl)) (fun _ _ _ h => h) (Or.inl ⟨by rfl, ?_⟩) ?_ ?_
                rotate_left
                ·intro w'
                 go_simp
                 with_reducible rfl
                rotate_left
                ·simp only [Act.put, sz1, sz2, sz3, i64_w, i32_w]
                 rfl
                refine pure_ (i := 3) (N := some 40) (v := ?_) (a' := ?_) #[true, true, true, true, false, false, false, false, false, false, false, false, false, false, false, false, false, false, false, false, false, false, false, false, false] rfl rfl (any_of HT_.out (by kernel_rfl)) (fun _ _ _ h => h) (Or.inl ⟨by rfl, ?_⟩) ?_ ?_
                rotate_left
                ·intro w'
                 go_simp
                 with_reducible rfl
                rotate_left
                ·simp only [Act.put, sz1, sz2, sz3, i64_w, i32_w]
                 rfl
                refine pure_ (i := 4) (N := some 41) (v := ?_) (a' := ?_) #[true, true, true, true, true, false, false, false, false, false, false, false, false, false, false, false, false, false, false, false, false, false, false, false, false] rfl rfl (any_of HT_.out (by kernel_rfl)) (fun _ _ _ h => h) (Or.inl ⟨by rfl, ?_⟩) ?_ ?_
                rotate_left
                ·intro w'
                 go_simp
                 with_reducible rfl
                rotate_left
                ·simp only [Act.put, sz1, sz2, sz3, i64_w, i32_w]
                 rfl
                refine pure_ (i := 5) (N := some 42) (v := ?_) (a' := ?_) #[true, true, true, true, true, true, false, false, false, false, false, false, false, false, false, false, false, false, false, false, false, false, false, false, false] rfl rfl (any_of HT_.out (by kernel_rfl)) (fun _ _ _ h => h) (Or.inl ⟨by rfl, ?_⟩) ?_ ?_
                rotate_left
                ·intro w'
                 go_simp
                 with_reducible rfl
                rotate_left
                ·simp only [Act.put, sz1, sz2, sz3, i64_w, i32_w]
                 rfl
                refine pure_ (i := 6) (N := some 43) (v := ?_) (a' := ?_) #[true, true, true, true, true, true, true, false, false, false, false, false, false, false, false, false, false, false, false, false, false, false, false, false, false] rfl rfl (any_of HT_.out (by kernel_rfl)) (fun _ _ _ h => h) (Or.inl ⟨by rfl, ?_⟩) ?_ ?_
                rotate_left
                ·intro w'
                 go_simp
                 with_reducible rfl
                rotate_left
                ·simp only [Act.put, sz1, sz2, sz3, i64_w, i32_w]
                 rfl
                refine pure_ (i := 7) (N := some 44) (v := ?_) (a' := ?_) #[true, true, true, true, true, true, true, true, false, false, false, false, false, false, false, false, false, false, false, false, false, false, false, false, false] rfl rfl (any_of HT_.out (by kernel_rfl)) (fun _ _ _ h => h) (Or.inl ⟨by rfl, ?_⟩) ?_ ?_
                rotate_left
                ·intro w'
                 go_simp
                 with_reducible rfl
                rotate_left
                ·simp only [Act.put, sz1, sz2, sz3, i64_w, i32_w]
                 rfl
                refine pure_ (i := 8) (N := some 45) (v := ?_) (a' := ?_) #[true, true, true, true, true, true, true, true, true, false, false, false, false, false, false, false, false, false, false, false, false, false, false, false, false] rfl rfl (any_of HT_.out (by kernel_rfl)) (fun _ _ _ h => h) (Or.inl ⟨by rfl, ?_⟩) ?_ ?_
                rotate_left
                ·intro w'
                 go_simp
                 with_reducible rfl
                rotate_left
                ·simp only [Act.put, sz1, sz2, sz3, i64_w, i32_w]
                 rfl
                refine pure_ (i := 10) (N := some 47) (v := ?_) (a' := ?_) #[true, true, true, true, true, true, true, true, true, false, true, false, false, false, false, false, false, false, false, false, false, false, false, false, false] rfl rfl (any_of HT_.out (by kernel_rfl)) (fun _ _ _ h => h) (Or.inl ⟨by rfl, ?_⟩) ?_ ?_
                rotate_left
                ·intro w'
                 go_simp
                 with_reducible rfl
                rotate_left
                ·simp only [Act.put, sz1, sz2, sz3, i64_w, i32_w]
                 rfl
                refine pure_ (i := 11) (N := some 48) (v := ?_) (a' := ?_) #[true, true, true, true, true, true, true, true, true, false, true, true, false, false, false, false, false, false, false, false, false, false, false, false, false] rfl rfl (any_of HT_.out (by kernel_rfl)) (fun _ _ _ h => h) (Or.inl ⟨by rfl, ?_⟩) ?_ ?_
                rotate_left
                ·intro w'
                 go_simp
                 with_reducible rfl
                rotate_left
                ·simp only [Act.put, sz1, sz2, sz3, i64_w, i32_w]
                 rfl
                refine pure_ (i := 12) (N := some 49) (v := ?_) (a' := ?_) #[true, true, true, true, true, true, true, true, true, false, true, true, true, false, false, false, false, false, false, false, false, false, false, false, false] rfl rfl (any_of HT_.out (by kernel_rfl)) (fun _ _ _ h => h) (Or.inl ⟨by rfl, ?_⟩) ?_ ?_
                rotate_left
                ·intro w'
                 go_simp
                 with_reducible rfl
                rotate_left
                ·simp only [Act.put, sz1, sz2, sz3, i64_w, i32_w]
                 rfl
                refine pure_ (i := 14) (N := some 51) (v := ?_) (a' := ?_) #[true, true, true, true, true, true, true, true, true, false, true, true, true, false, true, false, false, false, false, false, false, false, false, false, false] rfl rfl (any_of HT_.out (by kernel_rfl)) (fun _ _ _ h => h) (Or.inl ⟨by rfl, ?_⟩) ?_ ?_
                rotate_left
                ·intro w'
                 go_simp
                 with_reducible rfl
                rotate_left
                ·simp only [Act.put, sz1, sz2, sz3, i64_w, i32_w]
                 rfl
                refine pure_ (i := 15) (N := some 52) (v := ?_) (a' := ?_) #[true, true, true, true, true, true, true, true, true, false, true, true, true, false, true, true, false, false, false, false, false, false, false, false, false] rfl rfl (any_of HT_.out (by kernel_rfl)) (fun _ _ _ h => h) (Or.inl ⟨by rfl, ?_⟩) ?_ ?_
                rotate_left
                ·intro w'
                 go_simp
                 with_reducible rfl
                rotate_left
                ·simp only [Act.put, sz1, sz2, sz3, i64_w, i32_w]
                 rfl
                refine pure_ (i := 16) (N := some 53) (v := ?_) (a' := ?_) #[true, true, true, true, true, true, true, true, true, false, true, true, true, false, true, true, true, false, false, false, false, false, false, false, false] rfl rfl (any_of HT_.out (by kernel_rfl)) (fun _ _ _ h => h) (Or.inl ⟨by rfl, ?_⟩) ?_ ?_
                rotate_left
                ·intro w'
                 go_simp
                 with_reducible rfl
                rotate_left
                ·simp only [Act.put, sz1, sz2, sz3, i64_w, i32_w]
                 rfl
                refine pure_ (i := 20) (N := some 57) (v := ?_) (a' := ?_) #[true, true, true, true, true, true, true, true, true, false, true, true, true, false, true, true, true, false, false, false, true, false, false, false, false] rfl rfl (any_of HT_.out (by kernel_rfl)) (fun _ _ _ h => h) (Or.inl ⟨by rfl, ?_⟩) ?_ ?_
                rotate_left
                ·intro w'
                 go_simp
                 with_reducible rfl
                rotate_left
                ·simp only [Act.put, sz1, sz2, sz3, i64_w, i32_w]
                 rfl
                refine take_ (i := 9) (N := some 46) (v := ?_) (a' := ?_) #[true, true, true, true, true, true, true, true, true, true, true, true, true, false, true, true, true, false, false, false, true, false, false, false, false] rfl rfl (take_ofW HT_.out HW_.out (by kernel_rfl)) (fun _ _ _ h => h) (Or.inl ⟨by rfl, ?_⟩) hHeld ?_ ?_
                rotate_left
                ·rintro w' ⟨s0, s1, s2, s3, s4, s5⟩
                 go_simp
                 with_reducible rfl
                rotate_left
                ·simp only [Act.put, sz1, sz2, sz3, i64_w, i32_w]
                 rfl
                refine take_ (i := 13) (N := some 50) (v := ?_) (a' := ?_) #[true, true, true, true, true, true, true, true, true, true, true, true, true, true, true, true, true, false, false, false, true, false, false, false, false] rfl rfl (take_ofW HT_.out HW_.out (by kernel_rfl)) (fun _ _ _ h => h) (Or.inl ⟨by rfl, ?_⟩) hHeld ?_ ?_
                rotate_left
                ·rintro w' ⟨s0, s1, s2, s3, s4, s5⟩
                 go_simp
                 with_reducible rfl
                rotate_left
                ·simp only [Act.put, sz1, sz2, sz3, i64_w, i32_w]
                 rfl
                refine take_ (i := 17) (N := some 54) (v := ?_) (a' := ?_) #[true, true, true, true, true, true, true, true, true, true, true, true, true, true, true, true, true, true, false, false, true, false, false, false, false] rfl rfl (take_ofW HT_.out HW_.out (by kernel_rfl)) (fun _ _ _ h => h) (Or.inl ⟨by rfl, ?_⟩) hHeld ?_ ?_
                rotate_left
                ·rintro w' ⟨s0, s1, s2, s3, s4, s5⟩
                 go_simp
                 with_reducible rfl
                rotate_left
                ·simp only [Act.put, sz1, sz2, sz3, i64_w, i32_w]
                 rfl
                refine pure_ (i := 18) (N := some 55) (v := ?_) (a' := ?_) #[true, true, true, true, true, true, true, true, true, true, true, true, true, true, true, true, true, true, true, false, true, false, false, false, false] rfl rfl (any_of HT_.out (by kernel_rfl)) (fun _ _ _ h => h) (Or.inl ⟨by rfl, ?_⟩) ?_ ?_
                rotate_left
                ·intro w'
                 go_simp
                 with_reducible rfl
                rotate_left
                ·simp only [Act.put, sz1, sz2, sz3, i64_w, i32_w]
                 rfl
                refine pure_ (i := 19) (N := some 56) (v := ?_) (a' := ?_) #[true, true, true, true, true, true, true, true, true, true, true, true, true, true, true, true, true, true, true, true, true, false, false, false, false] rfl rfl (any_of HT_.out (by kernel_rfl)) (fun _ _ _ h => h) (Or.inl ⟨by rfl, ?_⟩) ?_ ?_
                rotate_left
                ·intro w'
                 go_simp
                 with_reducible rfl
                rotate_left
                ·simp only [Act.put, sz1, sz2, sz3, i64_w, i32_w]
                 rfl
                refine take_ (i := 21) (N := some 58) (v := ?_) (a' := ?_) #[true, true, true, true, true, true, true, true, true, true, true, true, true, true, true, true, true, true, true, true, true, true, false, false, false] rfl rfl (take_ofW HT_.out HW_.out (by kernel_rfl)) (fun _ _ _ h => h) (Or.inl ⟨by rfl, ?_⟩) hHeld ?_ ?_
                rotate_left
                ·rintro w' ⟨s0, s1, s2, s3, s4, s5⟩
                 go_simp
                 with_reducible rfl
                rotate_left
                ·simp only [Act.put, sz1, sz2, sz3, i64_w, i32_w]
                 rfl
                refine pure_ (i := 22) (N := some 59) (v := ?_) (a' := ?_) #[true, true, true, true, true, true, true, true, true, true, true, true, true, true, true, true, true, true, true, true, true, true, true, false, false] rfl rfl (any_of HT_.out (by kernel_rfl)) (fun _ _ _ h => h) (Or.inl ⟨by rfl, ?_⟩) ?_ ?_
                rotate_left
                ·intro w'
                 go_simp
                 with_reducible rfl
                rotate_left
                ·simp only [Act.put, sz1, sz2, sz3, i64_w, i32_w]
                 rfl
                refine pure_ (i := 23) (N := some 60) (v := ?_) (a' := ?_) #[true, true, true, true, true, true, true, true, true, true, true, true, true, true, true, true, true, true, true, true, true, true, true, true, false] rfl rfl (any_of HT_.out (by kernel_rfl)) (fun _ _ _ h => h) (Or.inl ⟨by rfl, ?_⟩) ?_ ?_
                rotate_left
                ·intro w'
                 go_simp
                 with_reducible rfl
                rotate_left
                ·simp only [Act.put, sz1, sz2, sz3, i64_w, i32_w]
                 rfl
                refine last_ (i := 24) (N := none) #[true, true, true, true, true, true, true, true, true, true, true, true, true, true, true, true, true, true, true, true, true, true, true, true, true] rfl rfl (one_of HT_.out (by kernel_rfl)) (by decide) (fun K hK => ?_)
                refine skip_ (w1 := ?_) (by rfl) rfl ?_ ?_
                rotate_left
                ·go_simp
                 rfl
                refine hK.out _ _ ?_
                clear hK K
                refine done_ (done_of HT_.out (by kernel_rfl)) ?_
                try go_wp2
                go_roundg k2
                case measure => have := HK1.out; have := HK2.out; omega
                case rel => exact ⟨(y209), (wrap64 (x11_2 + 1)), (by first | rfl | (simp; done) | (simp [*]; done)), H', ⟨by have := HK1.out; have := HK2.out; omega⟩, ⟨by (with_reducible repeat (first | apply Kd.R_alloc | apply Kd.R_drewN | apply Kd.R_drew)); exact Kd.R_mono (Kd.R_far (p := ⟨go28, ((ji20) : Int).toNat, none⟩) (Kd.R_mono HO_7.out (fun k_ hk => (⟨hk, fun e_ => hk.2 (by rw [e_]; rfl)⟩ : _ ∧ k_ ≠ go28))) (fun _ hk => hk.2) (.int .i64 (Int.tmod (wrap64 ((rd x9_2 (ji20)) + (wrap64 ((rd t197 x10_1) * (rd t200 x11_2))))) a0_0))) (fun _ hk => ⟨hk.1.1, hk.1.2⟩)⟩, ⟨by (with_reducible repeat (first | apply Kd.R_alloc | apply Kd.R_drewN | apply Kd.R_drew)); exact Kd.R_mono (Kd.R_far (p := ⟨go28, ((ji20) : Int).toNat, none⟩) (Kd.R_mono HO_8.out (fun k_ hk => (⟨hk, fun e_ => hk.2 (by rw [e_]; rfl)⟩ : _ ∧ k_ ≠ go28))) (fun _ hk => hk.2) (.int .i64 (Int.tmod (wrap64 ((rd x9_2 (ji20)) + (wrap64 ((rd t197 x10_1) * (rd t200 x11_2))))) a0_0))) (fun _ hk => ⟨hk.1.1, hk.1.2⟩)⟩, ⟨by (with_reducible repeat (first | apply Kd.R_alloc | apply Kd.R_drewN | apply Kd.R_drew)); exact HQ34.out⟩, ⟨by (with_reducible repeat (first | refine kN ?_ _ | refine kD ?_ | refine kA ?_ _)); refine blk_far ?_ (by have h_ := Kd.R_ne HO_9.out BK196.out (by decide); intro e_; exact h_ (by rw [e_]; rfl)) _; (with_reducible repeat (first | refine kN ?_ _ | refine kD ?_ | refine kA ?_ _)); exact BK196.out⟩, ⟨by repeat (first | (with_reducible first | exact HB.out | apply bA | apply bN | apply bD | refine bS ?_ GB28.out | refine bS ?_ GE196.out) | exact HB.out)⟩⟩
              ·rw [if_neg c26] at H
               exact absurd H (by simp)
             ·rw [if_neg c25] at H
              exact absurd H (by simp)
            ·rw [if_neg c24] at H
             exact absurd H (by simp)
           ·rw [if_neg c23] at H
            exact absurd H (by simp)
          ·rw [if_neg c22] at H
           exact absurd H (by simp)
         ·rw [if_neg c21] at H
          exact absurd H (by simp)
        ·rw [if_neg c19] at H
         have c19b0 : decide (x11_2 < a0_1) = false := decide_eq_false c19
         clear c19
         have H' := Q9a.mk H
         clear H
         have hcz35_0 : wr.cell? ⟨gb196, 0, none⟩ = some (.int .i64 a0_0) := (kC BK196.out 0).trans rfl
         have hcz35_1 : wr.cell? ⟨gb196, 1, none⟩ = some (.int .i64 a0_1) := (kC BK196.out 1).trans rfl
         have hcz35_2 : wr.cell? ⟨gb196, 2, none⟩ = some (.slice A0_2 l0_2.length c0_2) := (kC BK196.out 2).trans rfl
         have hfz35_0 := kF BK196.out 0
         have hfz35_1 := kF BK196.out 1
         have hfz35_2 := kF BK196.out 2
         go_wp2
         go_roundg k2
         case measure => have := HK1.out; have := HK2.out; omega
         case rel => exact ⟨(x9_2), (wrap64 (x10_1 + 1)), (by first | rfl | (simp; done) | (simp [*]; done)), H', ⟨by have := HK1.out; have := HK2.out; omega⟩, ⟨by (with_reducible repeat (first | apply Kd.R_alloc | apply Kd.R_drewN | apply Kd.R_drew)); exact HO_7.out⟩, ⟨by (with_reducible repeat (first | apply Kd.R_alloc | apply Kd.R_drewN | apply Kd.R_drew)); exact HO_8.out⟩, ⟨by (with_reducible repeat (first | apply Kd.R_alloc | apply Kd.R_drewN | apply Kd.R_drew)); exact HO_9.out⟩, ⟨by (with_reducible repeat (first | refine kN ?_ _ | refine kD ?_ | refine kA ?_ _)); exact BK196.out⟩, ⟨by repeat (first | (with_reducible first | exact HB.out | apply bA | apply bN | apply bD | refine bS ?_ GE196.out) | exact HB.out)⟩⟩
     ·rw [if_neg c17] at H
      have c17b0 : decide (x10_1 < a0_1) = false := decide_eq_false c17
      clear c17
      have H' := Q9a.mk H
      clear H
      have hcz36_0 : wr.cell? ⟨gb196, 0, none⟩ = some (.int .i64 a0_0) := (kC BK196.out 0).trans rfl
      have hcz36_1 : wr.cell? ⟨gb196, 1, none⟩ = some (.int .i64 a0_1) := (kC BK196.out 1).trans rfl
      have hcz36_2 : wr.cell? ⟨gb196, 2, none⟩ = some (.slice A0_2 l0_2.length c0_2) := (kC BK196.out 2).trans rfl
      have hfz36_0 := kF BK196.out 0
      have hfz36_1 := kF BK196.out 1
      have hfz36_2 := kF BK196.out 2
      go_wp2
      go_loopg [12] k1 (fun kq v12 w' => ∃ (x9_2 : List Int) (x12_2 : Int), v12 = .int .i64 x12_2 ∧ Q9a (r4Mul.l2 kq x9_2 x12_2 a0_0 a0_1 l0_2 = some r) ∧ Q9a (kq ≤ k1) ∧ Q9a (Kd.R (Kd.int .i64) 3 w' w.heap.size (fun _ => True) v204 x9_2) ∧ Q9a (w'.heap[gb196]? = some (.cells #[.int .i64 a0_0, .int .i64 a0_1, (.slice A0_2 l0_2.length c0_2)] 24 (0, 0))) ∧ Q9a (Below w.heap.size w w'))
      case atStart => exact ⟨(x9_1), (wrap64 ((wrap64 (2 * a0_1)) - 2)), (by first | rfl | (simp; done) | (simp [*]; done)), H', ⟨Nat.le_refl _⟩, ⟨by (with_reducible repeat (first | apply Kd.R_alloc | apply Kd.R_drewN | apply Kd.R_drew)); exact Kd.R_mono HO_9.out (fun _ hk => trivial)⟩, ⟨by (with_reducible repeat (first | refine kN ?_ _ | refine kD ?_ | refine kA ?_ _)); exact BK196.out⟩, ⟨by repeat (first | (with_reducible first | exact HB.out | apply bA | apply bN | apply bD | refine bS ?_ GE196.out) | exact HB.out)⟩⟩
      case round =>
       clear H'
       try clear c1
       try clear c2
       try clear p2
       try clear q2
       try clear hx2
       try clear c4
       try clear p6
       try clear c7
       try clear c7b0
       try clear c7b1
       try clear c8
       try clear c8b0
       try clear c8b1
       try clear c17
       try clear c17b0
       try clear c18
       try clear c19
       try clear c19b0
       try clear p20
       try clear q20
       try clear hx20
       try clear c21
       try clear c21b0
       try clear c22
       try clear c22b0
       try clear c23
       try clear c23b0
       try clear c24
       try clear c24b0
       try clear c25
       try clear c25b0
       try clear c26
       try clear c26b0
       try clear c27
       try clear c27b0
       try clear c27b1
       try clear p28
       try clear q28
       try clear hx28
       try clear hf28
       try clear hcz10_0
       try clear hcz10_1
       try clear hcz10_2
       try clear hcz12_0
       try clear hcz12_1
       try clear hcz12_2
       try clear hcz14_0
       try clear hcz14_1
       try clear hcz14_2
       try clear hcz18_0
       try clear hcz18_1
       try clear hcz18_2
       try clear hcz29_0
       try clear hcz29_1
       try clear hcz29_2
       try clear hcz35_0
       try clear hcz35_1
       try clear hcz35_2
       try clear hcz36_0
       try clear hcz36_1
       try clear hcz36_2
       try clear hfz10_0
       try clear hfz10_1
       try clear hfz10_2
       try clear hfz12_0
       try clear hfz12_1
       try clear hfz12_2
       try clear hfz14_0
       try clear hfz14_1
       try clear hfz14_2
       try clear hfz18_0
       try clear hfz18_1
       try clear hfz18_2
       try clear hfz29_0
       try clear hfz29_1
       try clear hfz29_2
       try clear hfz35_0
       try clear hfz35_1
       try clear hfz35_2
       try clear hfz36_0
       try clear hfz36_1
       try clear hfz36_2
       try clear hx206_0
       try clear hx207_0
       try clear hx208_0
       try clear hx28_0
       try clear p2
       try clear p206
       try clear p207
       try clear p208
       try clear p28
       try clear p6
       try clear q206
       try clear q207
       try clear q208
       try clear q28
       obtain ⟨x9_2, x12_2, rfl, HA, HK2, HO_9, BK196, HB⟩ := hrel
       cases gk with
       | zero => exact absurd HA.out (by simp [r4Mul.l2])
       | succ k2 =>
        have H := HA.out
        clear HA
        simp only [r4Mul.l2] at H
        by_cases c37 : x12_2 ≥ a0_1
        ·rw [if_pos c37] at H
         have c37b0 : decide (a0_1 ≤ x12_2) = true := decide_eq_true c37
         clear c37
         have H' := Q9a.mk H
         clear H
         have hcz38_0 : wr.cell? ⟨gb196, 0, none⟩ = some (.int .i64 a0_0) := (kC BK196.out 0).trans rfl
         have hcz38_1 : wr.cell? ⟨gb196, 1, none⟩ = some (.int .i64 a0_1) := (kC BK196.out 1).trans rfl
         have hcz38_2 : wr.cell? ⟨gb196, 2, none⟩ = some (.slice A0_2 l0_2.length c0_2) := (kC BK196.out 2).trans rfl
         have hfz38_0 := kF BK196.out 0
         have hfz38_1 := kF BK196.out 1
         have hfz38_2 := kF BK196.out 2
         go_wp2
         go_loopg [13] k2 (fun kq v13 w' => ∃ (x9_3 : List Int) (x13_3 : Int), v13 = .int .i64 x13_3 ∧ Q9a (r4Mul.l3 kq x9_3 x12_2 x13_3 a0_0 a0_1 l0_2 = some r) ∧ Q9a (kq ≤ k2) ∧ Q9a (Kd.R (Kd.int .i64) 3 w' w.heap.size (fun _ => True) v204 x9_3) ∧ Q9a (w'.heap[gb196]? = some (.cells #[.int .i64 a0_0, .int .i64 a0_1, (.slice A0_2 l0_2.length c0_2)] 24 (0, 0))) ∧ Q9a (Below w.heap.size w w'))
         case atStart => exact ⟨(x9_2), (0), (by first | rfl | (simp; done) | (simp [*]; done)), H', ⟨Nat.le_refl _⟩, ⟨by (with_reducible repeat (first | apply Kd.R_alloc | apply Kd.R_drewN | apply Kd.R_drew)); exact HO_9.out⟩, ⟨by (with_reducible repeat (first | refine kN ?_ _ | refine kD ?_ | refine kA ?_ _)); exact BK196.out⟩, ⟨by repeat (first | (with_reducible first | exact HB.out | apply bA | apply bN | apply bD | refine bS ?_ GE196.out) | exact HB.out)⟩⟩
         case round =>
          clear H'
          try clear c1
          try clear c2
          try clear p2
          try clear q2
          try clear hx2
          try clear c3
          try clear c4
          try clear p6
          try clear c7
          try clear c7b0
          try clear c7b1
          try clear c8
          try clear c8b0
          try clear c8b1
          try clear c17
          try clear c17b0
          try clear c18
          try clear c19
          try clear c19b0
          try clear p20
          try clear q20
          try clear hx20
          try clear c21
          try clear c21b0
          try clear c22
          try clear c22b0
          try clear c23
          try clear c23b0
          try clear c24
          try clear c24b0
          try clear c25
          try clear c25b0
          try clear c26
          try clear c26b0
          try clear c27
          try clear c27b0
          try clear c27b1
          try clear p28
          try clear q28
          try clear hx28
          try clear hf28
          try clear c37
          try clear c37b0
          try clear hcz10_0
          try clear hcz10_1
          try clear hcz10_2
          try clear hcz12_0
          try clear hcz12_1
          try clear hcz12_2
          try clear hcz14_0
          try clear hcz14_1
          try clear hcz14_2
          try clear hcz18_0
          try clear hcz18_1
          try clear hcz18_2
          try clear hcz29_0
          try clear hcz29_1
          try clear hcz29_2
          try clear hcz35_0
          try clear hcz35_1
          try clear hcz35_2
          try clear hcz36_0
          try clear hcz36_1
          try clear hcz36_2
          try clear hcz38_0
          try clear hcz38_1
          try clear hcz38_2
          try clear hfz10_0
          try clear hfz10_1
          try clear hfz10_2
          try clear hfz12_0
          try clear hfz12_1
          try clear hfz12_2
          try clear hfz14_0
          try clear hfz14_1
          try clear hfz14_2
          try clear hfz18_0
          try clear hfz18_1
          try clear hfz18_2
          try clear hfz29_0
          try clear hfz29_1
          try clear hfz29_2
          try clear hfz35_0
          try clear hfz35_1
          try clear hfz35_2
          try clear hfz36_0
          try clear hfz36_1
          try clear hfz36_2
          try clear hfz38_0
          try clear hfz38_1
          try clear hfz38_2
          try clear hx206_0
          try clear hx207_0
          try clear hx208_0
          try clear hx28_0
          try clear p2
          try clear p20
          try clear p206
          try clear p207
          try clear p208
          try clear p28
          try clear p6
          try clear q2
          try clear q20
          try clear q206
          try clear q207
          try clear q208
          try clear q28
          obtain ⟨x9_3, x13_3, rfl, HA, HK3, HO_9, BK196, HB⟩ := hrel
          cases gk with
          | zero => exact absurd HA.out (by simp [r4Mul.l3])
          | succ k3 =>
           have H := HA.out
           clear HA
           simp only [r4Mul.l3] at H
           by_cases c39 : x13_3 < a0_1
           ·rw [if_pos c39] at H
            have c39b0 : decide (x13_3 < a0_1) = true := decide_eq_true c39
            clear c39
            obtain ⟨ji40, hji40⟩ : ∃ j_ : Int, (wrap64 ((wrap64 (x12_2 - a0_1)) + x13_3)) = j_ := ⟨_, rfl⟩
            replace H : (if 0 ≤ (ji40) then (if (ji40) < (x9_3.length : Int) then (if 0 ≤ x12_2 then (if x12_2 < (x9_3.length : Int) then (if 0 ≤ x13_3 then (if x13_3 < (l0_2.length : Int) then (if a0_0 = 0 then (none) else (r4Mul.l3 k3 (x9_3.set ((ji40) : Int).toNat (Int.tmod (wrap64 ((rd x9_3 (ji40)) + (wrap64 ((wrap64 (a0_0 - (rd x9_3 x12_2))) * (rd l0_2 x13_3))))) a0_0)) x12_2 (wrap64 (x13_3 + 1)) a0_0 a0_1 l0_2)) else (none)) else (none)) else (none)) else (none)) else (none)) else (none)) = some r := by first | (rw [hji40] at H; exact H) | (simp only [hji40] at H ⊢; exact H)
            have hji40w : (IntKind.i64.wrap ((wrap64 (x12_2 - a0_1)) + x13_3)) = ji40 := (i64_w _).trans hji40
            by_cases c41 : 0 ≤ (ji40)
            ·rw [if_pos c41] at H
             have c41b0 : decide (0 ≤ (ji40)) = true := decide_eq_true c41
             clear c41
             by_cases c42 : (ji40) < (x9_3.length : Int)
             ·rw [if_pos c42] at H
              have c42b0 : decide ((ji40) < (x9_3.length : Int)) = true := decide_eq_true c42
              clear c42
              by_cases c43 : 0 ≤ x12_2
              ·rw [if_pos c43] at H
               have c43b0 : decide (0 ≤ x12_2) = true := decide_eq_true c43
               clear c43
               by_cases c44 : x12_2 < (x9_3.length : Int)
               ·rw [if_pos c44] at H
                have c44b0 : decide (x12_2 < (x9_3.length : Int)) = true := decide_eq_true c44
                clear c44
                by_cases c45 : 0 ≤ x13_3
                ·rw [if_pos c45] at H
                 have c45b0 : decide (0 ≤ x13_3) = true := decide_eq_true c45
                 clear c45
                 by_cases c46 : x13_3 < (l0_2.length : Int)
                 ·rw [if_pos c46] at H
                  have c46b0 : decide (x13_3 < (l0_2.length : Int)) = true := decide_eq_true c46
                  clear c46
                  by_cases c47 : a0_0 = 0
                  ·rw [if_pos c47] at H
                   exact absurd H (by simp)
                  ·rw [if_neg c47] at H
                   have c47b0 : (a0_0 == 0) = false := beq_eq_false_iff_ne.mpr c47
                   have c47b1 : (a0_0 != 0) = true := bne_iff_ne.mpr c47
                   obtain ⟨y218, hy218⟩ : ∃ y_ : List Int, y_ = (x9_3.set ((ji40) : Int).toNat (Int.tmod (wrap64 ((rd x9_3 (ji40)) + (wrap64 ((wrap64 (a0_0 - (rd x9_3 x12_2))) * (rd l0_2 x13_3))))) a0_0)) := ⟨_, rfl⟩
                   replace H : (r4Mul.l3 k3 y218 x12_2 (wrap64 (x13_3 + 1)) a0_0 a0_1 l0_2) = some r := by first | (rw [hy218]; with_reducible exact H) | (have H2_ := (Option.bind_some _ _).symm.trans H; rw [hy218]; with_reducible exact H2_) | (have H2_ := (Option.bind_some _ _).symm.trans H; with_reducible exact H2_) | with_reducible exact H | (rw [hy218]; exact H) | exact H
                   have Ny218 := Q9a.mk hy218
                   clear hy218
                   have H' := Q9a.mk H
                   clear H
                   have hcz49_0 : wr.cell? ⟨gb196, 0, none⟩ = some (.int .i64 a0_0) := (kC BK196.out 0).trans rfl
                   have hcz49_1 : wr.cell? ⟨gb196, 1, none⟩ = some (.int .i64 a0_1) := (kC BK196.out 1).trans rfl
                   have hcz49_2 : wr.cell? ⟨gb196, 2, none⟩ = some (.slice A0_2 l0_2.length c0_2) := (kC BK196.out 2).trans rfl
                   have hfz49_0 := kF BK196.out 0
                   have hfz49_1 := kF BK196.out 1
                   have hfz49_2 := kF BK196.out 2
                   try go_wp2
                   have n0_ := Q9a.mk (Kd.R_drew HO_9.out)
                   have n1_ := Q9a.mk (kD BK196.out)
                   have n2_ := Q9a.mk (bD HB.out)
                   clear HO_9
                   clear BK196
                   clear HB
                   have HO_9 := n0_
                   have BK196 := n1_
                   have HB := n2_
                   clear n0_ n1_ n2_
                   obtain ⟨Ao51, co51, eo51⟩ := Kd.R_slice HO_9.out
                   (first | subst eo51 | (injection eo51 with f1_ f2_ f3_; have f4_ := f1_.symm; have f5_ := f3_.symm; clear f1_ f2_ f3_; subst f4_; subst f5_))
                   have p215 : 0 ≤ ((ji40) : Int) := of_decide_eq_true (by first | (with_reducible assumption) | assumption)
                   have q215 : (ji40) < (x9_3.length : Int) := of_decide_eq_true (by first | (with_reducible assumption) | assumption)
                   obtain ⟨ad215, e215, hx215_0⟩ := Kd.at_int (Kd.R_reads' HO_9.out).2.2 (ji40) p215 q215
                   cases e215
                   replace p215 := eq_true p215
                   replace q215 := eq_true q215
                   have p216 : 0 ≤ (x12_2 : Int) := of_decide_eq_true (by first | (with_reducible assumption) | assumption)
                   have q216 : x12_2 < (x9_3.length : Int) := of_decide_eq_true (by first | (with_reducible assumption) | assumption)
                   obtain ⟨ad216, e216, hx216_0⟩ := Kd.at_int (Kd.R_reads' HO_9.out).2.2 x12_2 p216 q216
                   obtain rfl : ad215 = ad216 := (by injection e216)
                   replace p216 := eq_true p216
                   replace q216 := eq_true q216
                   have p217 : 0 ≤ (x13_3 : Int) := of_decide_eq_true (by first | (with_reducible assumption) | assumption)
                   have q217 : x13_3 < (l0_2.length : Int) := of_decide_eq_true (by first | (with_reducible assumption) | assumption)
                   obtain ⟨ad217, e217, hx217_0⟩ := Kd.at_int HR0_2.out x13_3 p217 q217
                   have hw217_0 := hx217_0
                   cases e217
                   replace hx217_0 := (HB.out.cell (World.block_lt_of_cell? w _ hx217_0)).trans hx217_0
                   replace p217 := eq_true p217
                   replace q217 := eq_true q217
                   have p48 : 0 ≤ ((ji40) : Int) := of_decide_eq_true (by first | (with_reducible assumption) | assumption)
                   have q48 : ((ji40) : Int) < ((x9_3.length : Int) : Int) := of_decide_eq_true (by first | (with_reducible assumption) | assumption)
                   obtain ⟨go48, co48, eo48, gb48, gl48, cl48, HG48⟩ := Kd.R_form HO_9.out (by omega)
                   (first | cases eo48 | (injection eo48 with ea_ en_ ec_; (first | subst ea_ | (injection ea_ with ea_; subst ea_)); subst ec_; clear en_))
                   have GB48 := Q9a.mk gb48
                   have GG48 := Q9a.mk HG48
                   clear gb48 gl48 HG48
                   (first | simp only [add_plain] at hx215_0 | skip)
                   (first | simp only [add_plain] at hx216_0 | skip)
                   obtain ⟨hx48_0, hf48_0⟩ := Kd.R_celln 0 HO_9.out ((ji40) : Int) p48 q48
                   replace p48 := eq_true p48
                   replace q48 := eq_true q48
                   have HP52 := Kd.R_putn HO_9.out ((ji40) : Int) (Int.tmod (wrap64 ((rd x9_3 (ji40)) + (wrap64 ((wrap64 (a0_0 - (rd x9_3 x12_2))) * (rd l0_2 x13_3))))) a0_0)
                   rw [← Ny218.out] at HP52
                   have HQ52 := Q9a.mk HP52
                   clear HP52
                   refine start_ (n := 35) (S := fun w' => w'.cell? ⟨gb196, 0, none⟩ = some (.int .i64 a0_0) ∧ w'.cell? ⟨gb196, 1, none⟩ = some (.int .i64 a0_1) ∧ w'.cell? ⟨gb196, 2, none⟩ = some (.slice (some ad217) l0_2.length c0_2) ∧ w'.cell? ⟨go48, ((ji40)).toNat, none⟩ = some (.int .i64 (rd x9_3 (ji40))) ∧ w'.cell? ⟨go48, (x12_2).toNat, none⟩ = some (.int .i64 (rd x9_3 x12_2)) ∧ w'.cell? (ad217.add (x13_3).toNat) = some (.int .i64 (rd l0_2 x13_3))) (ds := [34]) #[false, false, false, false, false, false, false, false, false, false, false, false, false, false, false, false, false, false, false, false, false, false, false, false, false, false, false, false, false, false, false, false, false, false, false] (by kernel_rfl) rfl rfl ⟨(kC BK196.out 0).trans rfl, (kC BK196.out 1).trans rfl, (kC BK196.out 2).trans rfl, hx215_0, hx216_0, ((HB.out.cell (World.block_lt_of_cell? w _ hw217_0)).trans hw217_0)⟩ (fun hHeld => ?_); refine with_tabW r4Mul.tab17 r4Mul.bits17 (fun HT_ HW_ => ?_)
                   generalize wr.drew = w50 at HO_9 BK196 HB GG48 HQ52 hf48_0 hx215_0 hx216_0 hx217_0 hx48_0 hHeld ⊢
                   refine pure_ (i := 0) (N := some 77) (v := ?_) (a' := ?_) #[true, false, false, false, false, false, false, false, false, false, false, false, false, false, false, false, false, false, false, false, false, false, false, false, false, false, false, false, false, false, false, false, false, false, false] rfl rfl (any_of HT_.out (by kernel_rfl)) (fun _ _ _ h => h) (Or.inl ⟨by rfl, ?_⟩) ?_ ?_
                   rotate_left
                   ·intro w'
                    go_simp
                    with_reducible rfl
                   rotate_left
                   ·simp only [Act.put, sz1, sz2, sz3, i64_w, i32_w]
                    rfl
                   refine pure_ (i := 1) (N := some 78) (v := ?_) (a' := ?_) #[true, true, false, false, false, false, false, false, false, false, false, false, false, false, false, false, false, false, false, false, false, false, false, false, false, false, false, false, false, false, false, false, false, false, false] rfl rfl (any_of HT_.out (by kernel_rfl)) (fun _ _ _ h => h) (Or.inl ⟨by rfl, ?_⟩) ?_ ?_
                   rotate_left
                   ·intro w'
                    go_simp
                    with_reducible rfl
                   rotate_left
                   ·simp only [Act.put, sz1, sz2, sz3, i64_w, i32_w]
                    rfl
                   refine pure_ (i := 2) (N := some 79) (v := ?_) (a' := ?_) #[true, true, true, false, false, false, false, false, false, false, false, false, false, false, false, false, false, false, false, false, false, false, false, false, false, false, false, false, false, false, false, false, false, false, false] rfl rfl (any_of HT_.out (by kernel_rfl)) (fun _ _ _ h => h) (Or.inl ⟨by rfl, ?_⟩) ?_ ?_
                   rotate_left
                   ·intro w'
                    go_simp
                    with_reducible rfl
                   rotate_left
                   ·simp only [Act.put, sz1, sz2, sz3, i64_w, i32_w]
                    rfl
                   refine pure_ (i := 5) (N := some 82) (v := ?_) (a' := ?_) #[true, true, true, false, false, true, false, false, false, false, false, false, false, false, false, false, false, false, false, false, false, false, false, false, false, false, false, false, false, false, false, false, false, false, false] rfl rfl (any_of HT_.out (by kernel_rfl)) (fun _ _ _ h => h) (Or.inl ⟨by rfl, ?_⟩) ?_ ?_
                   rotate_left
                   ·intro w'
                    go_simp
                    with_reducible rfl
                   rotate_left
                   ·simp only [Act.put, sz1, sz2, sz3, i64_w, i32_w]
                    rfl
                   refine pure_ (i := 7) (N := some 84) (v := ?_) (a' := ?_) #[true, true, true, false, false, true, false, true, false, false, false, false, false, false, false, false, false, false, false, false, false, false, false, false, false, false, false, false, false, false, false, false, false, false, false] rfl rfl (any_of HT_.out (by kernel_rfl)) (fun _ _ _ h => h) (Or.inl ⟨by rfl, ?_⟩) ?_ ?_
                   rotate_left
                   ·intro w'
                    go_simp
                    with_reducible rfl
                   rotate_left
                   ·simp only [Act.put, sz1, sz2, sz3, i64_w, i32_w]
                    rfl
                   refine pure_ (i := 8) (N := some 85) (v := ?_) (a' := ?_) #[true, true, true, false, false, true, false, true, true, false, false, false, false, false, false, false, false, false, false, false, false, false, false, false, false, false, false, false, false, false, false, false, false, false, false] rfl rfl (any_of HT_.out (by kernel_rfl)) (fun _ _ _ h => h) (Or.inl ⟨by rfl, ?_⟩) ?_ ?_
                   rotate_left
                   ·intro w'
                    go_simp
                    with_reducible rfl
                   rotate_left
                   ·simp only [Act.put, sz1, sz2, sz3, i64_w, i32_w]
                    rfl
                   refine pure_ (i := 9) (N := some 86) (v := ?_) (a' := ?_) #[true, true, true, false, false, true, false, true, true, true, false, false, false, false, false, false, false, false, false, false, false, false, false, false, false, false, false, false, false, false, false, false, false, false, false] rfl rfl (any_of HT_.out (by kernel_rfl)) (fun _ _ _ h => h) (Or.inl ⟨by rfl, ?_⟩) ?_ ?_
                   rotate_left
                   ·intro w'
                    go_simp
                    with_reducible rfl
                   rotate_left
                   ·simp only [Act.put, sz1, sz2, sz3, i64_w, i32_w]
                    rfl
                   refine pure_ (i := 12) (N := some 89) (v := ?_) (a' := ?_) #[true, true, true, false, false, true, false, true, true, true, false, false, true, false, false, false, false, false, false, false, false, false, false, false, false, false, false, false, false, false, false, false, false, false, false] rfl rfl (any_of HT_.out (by kernel_rfl)) (fun _ _ _ h => h) (Or.inl ⟨by rfl, ?_⟩) ?_ ?_
                   rotate_left
                   ·intro w'
                    go_simp
                    with_reducible rfl
                   rotate_left
                   ·simp only [Act.put, sz1, sz2, sz3, i64_w, i32_w]
                    rfl
                   refine pure_ (i := 16) (N := some 93) (v := ?_) (a' := ?_) #[true, true, true, false, false, true, false, true, true, true, false, false, true, false, false, false, true, false, false, false, false, false, false, false, false, false, false, false, false, false, false, false, false, false, false] rfl rfl (any_of HT_.out (by kernel_rfl)) (fun _ _ _ h => h) (Or.inl ⟨by rfl, ?_⟩) ?_ ?_
                   rotate_left
                   ·intro w'
                    go_simp
                    with_reducible rfl
                   rotate_left
                   ·simp only [Act.put, sz1, sz2, sz3, i64_w, i32_w]
                    rfl
                   refine pure_ (i := 18) (N := some 95) (v := ?_) (a' := ?_) #[true, true, true, false, false, true, false, true, true, true, false, false, true, false, false, false, true, false, true, false, false, false, false, false, false, false, false, false, false, false, false, false, false, false, false] rfl rfl (any_of HT_.out (by kernel_rfl)) (fun _ _ _ h => h) (Or.inl ⟨by rfl, ?_⟩) ?_ ?_
                   rotate_left
                   ·intro w'
                    go_simp
                    with_reducible rfl
                   rotate_left
                   ·simp only [Act.put, sz1, sz2, sz3, i64_w, i32_w]
                    rfl
                   refine pure_ (i := 19) (N := some 96) (v := ?_) (a' := ?_) #[true, true, true, false, false, true, false, true, true, true, false, false, true, false, false, false, true, false, true, true, false, false, false, false, false, false, false, false, false, false, false, false, false, false, false] rfl rfl (any_of HT_.out (by kernel_rfl)) (fun _ _ _ h => h) (Or.inl ⟨by rfl, ?_⟩) ?_ ?_
                   rotate_left
                   ·intro w'
                    go_simp
                    with_reducible rfl
                   rotate_left
                   ·simp only [Act.put, sz1, sz2, sz3, i64_w, i32_w]
                    rfl
                   refine pure_ (i := 20) (N := some 97) (v := ?_) (a' := ?_) #[true, true, true, false, false, true, false, true, true, true, false, false, true, false, false, false, true, false, true, true, true, false, false, false, false, false, false, false, false, false, false, false, false, false, false] rfl rfl (any_of HT_.out (by kernel_rfl)) (fun _ _ _ h => h) (Or.inl ⟨by rfl, ?_⟩) ?_ ?_
                   rotate_left
                   ·intro w'
                    go_simp
                    with_reducible rfl
                   rotate_left
                   ·simp only [Act.put, sz1, sz2, sz3, i64_w, i32_w]
                    rfl
                   refine pure_ (i := 23) (N := some 100) (v := ?_) (a' := ?_) #[true, true, true, false, false, true, false, true, true, true, false, false, true, false, false, false, true, false, true, true, true, false, false, true, false, false, false, false, false, false, false, false, false, false, false] rfl rfl (any_of HT_.out (by kernel_rfl)) (fun _ _ _ h => h) (Or.inl ⟨by rfl, ?_⟩) ?_ ?_
                   rotate_left
                   ·intro w'
                    go_simp
                    with_reducible rfl
                   rotate_left
                   ·simp only [Act.put, sz1, sz2, sz3, i64_w, i32_w]
                    rfl
                   refine pure_ (i := 25) (N := some 102) (v := ?_) (a' := ?_) #[true, true, true, false, false, true, false, true, true, true, false, false, true, false, false, false, true, false, true, true, true, false, false, true, false, true, false, false, false, false, false, false, false, false, false] rfl rfl (any_of HT_.out (by kernel_rfl)) (fun _ _ _ h => h) (Or.inl ⟨by rfl, ?_⟩) ?_ ?_
                   rotate_left
                   ·intro w'
                    go_simp
                    with_reducible rfl
                   rotate_left
                   ·simp only [Act.put, sz1, sz2, sz3, i64_w, i32_w]
                    rfl
                   refine pure_ (i := 30) (N := some 107) (v := ?_) (a' := ?_) #[true, true, true, false, false, true, false, true, true, true, false, false, true, false, false, false, true, false, true, true, true, false, false, true, false, true, false, false, false, false, true, false, false, false, false] rfl rfl (any_of HT_.out (by kernel_rfl)) (fun _ _ _ h => h) (Or.inl ⟨by rfl, ?_⟩) ?_ ?_
                   rotate_left
                   ·intro w'
                    go_simp
                    with_reducible rfl
                   rotate_left
                   ·simp only [Act.put, sz1, sz2, sz3, i64_w, i32_w]
                    rfl
                   refine take_ (i := 3) (N := some 80) (v := ?_) (a' := ?_) #[true, true, true, true, false, true, false, true, true, true, false, false, true, false, false, false, true, false, true, true, true, false, false, true, false, true, false, false, false, false, true, false, false, false, false] rfl rfl (take_ofW HT_.out HW_.out (by kernel_rfl)) (fun _ _ _ h => h) (Or.inl ⟨by rfl, ?_⟩) hHeld ?_ ?_
                   rotate_left
                   ·rintro w' ⟨s0, s1, s2, s3, s4, s5⟩
                    go_simp
                    with_reducible rfl
                   rotate_left
                   ·simp only [Act.put, sz1, sz2, sz3, i64_w, i32_w]
                    rfl
                   refine pure_ (i := 4) (N := some 81) (v := ?_) (a' := ?_) #[true, true, true, true, true, true, false, true, true, true, false, false, true, false, false, false, true, false, true, true, true, false, false, true, false, true, false, false, false, false, true, false, false, false, false] rfl rfl (any_of HT_.out (by kernel_rfl)) (fun _ _ _ h => h) (Or.inl ⟨by rfl, ?_⟩) ?_ ?_
                   rotate_left
                   ·intro w'
                    go_simp
                    with_reducible rfl
                   rotate_left
                   ·simp only [Act.put, sz1, sz2, sz3, i64_w, i32_w]
                    rfl
                   refine pure_ (i := 6) (N := some 83) (v := ?_) (a' := ?_) #[true, true, true, true, true, true, true, true, true, true, false, false, true, false, false, false, true, false, true, true, true, false, false, true, false, true, false, false, false, false, true, false, false, false, false] rfl rfl (any_of HT_.out (by kernel_rfl)) (fun _ _ _ h => h) (Or.inl ⟨by rfl, ?_⟩) ?_ ?_
                   rotate_left
                   ·intro w'
                    go_simp
                    with_reducible rfl
                   rotate_left
                   ·simp only [Act.put, sz1, sz2, sz3, i64_w, i32_w]
                    rfl
                   refine take_ (i := 10) (N := some 87) (v := ?_) (a' := ?_) #[true, true, true, true, true, true, true, true, true, true, true, false, true, false, false, false, true, false, true, true, true, false, false, true, false, true, false, false, false, false, true, false, false, false, false] rfl rfl (take_ofW HT_.out HW_.out (by kernel_rfl)) (fun _ _ _ h => h) (Or.inl ⟨by rfl, ?_⟩) hHeld ?_ ?_
                   rotate_left
                   ·rintro w' ⟨s0, s1, s2, s3, s4, s5⟩
                    go_simp
                    with_reducible rfl
                   rotate_left
                   ·simp only [Act.put, sz1, sz2, sz3, i64_w, i32_w]
                    rfl
                   refine pure_ (i := 11) (N := some 88) (v := ?_) (a' := ?_) #[true, true, true, true, true, true, true, true, true, true, true, true, true, false, false, false, true, false, true, true, true, false, false, true, false, true, false, false, false, false, true, false, false, false, false] rfl rfl (any_of HT_.out (by kernel_rfl)) (fun _ _ _ h => h) (Or.inl ⟨by rfl, ?_⟩) ?_ ?_
                   rotate_left
                   ·intro w'
                    go_simp
                    with_reducible rfl
                   rotate_left
                   ·simp only [Act.put, sz1, sz2, sz3, i64_w, i32_w]
                    rfl
                   refine pure_ (i := 13) (N := some 90) (v := ?_) (a' := ?_) #[true, true, true, true, true, true, true, true, true, true, true, true, true, true, false, false, true, false, true, true, true, false, false, true, false, true, false, false, false, false, true, false, false, false, false] rfl rfl (any_of HT_.out (by kernel_rfl)) (fun _ _ _ h => h) (Or.inl ⟨by rfl, ?_⟩) ?_ ?_
                   rotate_left
                   ·intro w'
                    go_simp
                    with_reducible rfl
                   rotate_left
                   ·simp only [Act.put, sz1, sz2, sz3, i64_w, i32_w]
                    rfl
                   refine pure_ (i := 14) (N := some 91) (v := ?_) (a' := ?_) #[true, true, true, true, true, true, true, true, true, true, true, true, true, true, true, false, true, false, true, true, true, false, false, true, false, true, false, false, false, false, true, false, false, false, false] rfl rfl (any_of HT_.out (by kernel_rfl)) (fun _ _ _ h => h) (Or.inl ⟨by rfl, ?_⟩) ?_ ?_
                   rotate_left
                   ·intro w'
                    go_simp
                    with_reducible rfl
                   rotate_left
                   ·simp only [Act.put, sz1, sz2, sz3, i64_w, i32_w]
                    rfl
                   refine take_ (i := 15) (N := some 92) (v := ?_) (a' := ?_) #[true, true, true, true, true, true, true, true, true, true, true, true, true, true, true, true, true, false, true, true, true, false, false, true, false, true, false, false, false, false, true, false, false, false, false] rfl rfl (take_ofW HT_.out HW_.out (by kernel_rfl)) (fun _ _ _ h => h) (Or.inl ⟨by rfl, ?_⟩) hHeld ?_ ?_
                   rotate_left
                   ·rintro w' ⟨s0, s1, s2, s3, s4, s5⟩
                    go_simp
                    with_reducible rfl
                   rotate_left
                   ·simp only [Act.put, sz1, sz2, sz3, i64_w, i32_w]
                    rfl
                   refine take_ (i := 17) (N := some 94) (v := ?_) (a' := ?_) #[true, true, true, true, true, true, true, true, true, true, true, true, true, true, true, true, true, true, true, true, true, false, false, true, false, true, false, false, false, false, true, false, false, false, false] rfl rfl (take_ofW HT_.out HW_.out (by kernel_rfl)) (fun _ _ _ h => h) (Or.inl ⟨by rfl, ?_⟩) hHeld ?_ ?_
                   rotate_left
                   ·rintro w' ⟨s0, s1, s2, s3, s4, s5⟩
                    go_simp
                    with_reducible rfl
                   rotate_left
                   ·simp only [Act.put, sz1, sz2, sz3, i64_w, i32_w]
                    rfl
                   refine take_ (i := 21) (N := some 98) (v := ?_) (a' := ?_) #[true, true, true, true, true, true, true, true, true, true, true, true, true, true, true, true, true, true, true, true, true, true, false, true, false, true, false, false, false, false, true, false, false, false, false] rfl rfl (take_ofW HT_.out HW_.out (by kernel_rfl)) (fun _ _ _ h => h) (Or.inl ⟨by rfl, ?_⟩) hHeld ?_ ?_
                   rotate_left
                   ·rintro w' ⟨s0, s1, s2, s3, s4, s5⟩
                    go_simp
                    with_reducible rfl
                   rotate_left
                   ·simp only [Act.put, sz1, sz2, sz3, i64_w, i32_w]
                    rfl
                   refine pure_ (i := 22) (N := some 99) (v := ?_) (a' := ?_) #[true, true, true, true, true, true, true, true, true, true, true, true, true, true, true, true, true, true, true, true, true, true, true, true, false, true, false, false, false, false, true, false, false, false, false] rfl rfl (any_of HT_.out (by kernel_rfl)) (fun _ _ _ h => h) (Or.inl ⟨by rfl, ?_⟩) ?_ ?_
                   rotate_left
                   ·intro w'
                    go_simp
                    with_reducible rfl
                   rotate_left
                   ·simp only [Act.put, sz1, sz2, sz3, i64_w, i32_w]
                    rfl
                   refine take_ (i := 24) (N := some 101) (v := ?_) (a' := ?_) #[true, true, true, true, true, true, true, true, true, true, true, true, true, true, true, true, true, true, true, true, true, true, true, true, true, true, false, false, false, false, true, false, false, false, false] rfl rfl (take_ofW HT_.out HW_.out (by kernel_rfl)) (fun _ _ _ h => h) (Or.inl ⟨by rfl, ?_⟩) hHeld ?_ ?_
                   rotate_left
                   ·rintro w' ⟨s0, s1, s2, s3, s4, s5⟩
                    go_simp
                    with_reducible rfl
                   rotate_left
                   ·simp only [Act.put, sz1, sz2, sz3, i64_w, i32_w]
                    rfl
                   refine pure_ (i := 26) (N := some 103) (v := ?_) (a' := ?_) #[true, true, true, true, true, true, true, true, true, true, true, true, true, true, true, true, true, true, true, true, true, true, true, true, true, true, true, false, false, false, true, false, false, false, false] rfl rfl (any_of HT_.out (by kernel_rfl)) (fun _ _ _ h => h) (Or.inl ⟨by rfl, ?_⟩) ?_ ?_
                   rotate_left
                   ·intro w'
                    go_simp
                    with_reducible rfl
                   rotate_left
                   ·simp only [Act.put, sz1, sz2, sz3, i64_w, i32_w]
                    rfl
                   refine take_ (i := 27) (N := some 104) (v := ?_) (a' := ?_) #[true, true, true, true, true, true, true, true, true, true, true, true, true, true, true, true, true, true, true, true, true, true, true, true, true, true, true, true, false, false, true, false, false, false, false] rfl rfl (take_ofW HT_.out HW_.out (by kernel_rfl)) (fun _ _ _ h => h) (Or.inl ⟨by rfl, ?_⟩) hHeld ?_ ?_
                   rotate_left
                   ·rintro w' ⟨s0, s1, s2, s3, s4, s5⟩
                    go_simp
                    with_reducible rfl
                   rotate_left
                   ·simp only [Act.put, sz1, sz2, sz3, i64_w, i32_w]
                    rfl
                   refine pure_ (i := 28) (N := some 105) (v := ?_) (a' := ?_) #[true, true, true, true, true, true, true, true, true, true, true, true, true, true, true, true, true, true, true, true, true, true, true, true, true, true, true, true, true, false, true, false, false, false, false] rfl rfl (any_of HT_.out (by kernel_rfl)) (fun _ _ _ h => h) (Or.inl ⟨by rfl, ?_⟩) ?_ ?_
                   rotate_left
                   ·intro w'
                    go_simp
                    with_reducible rfl
                   rotate_left
                   ·simp only [Act.put, sz1, sz2, sz3, i64_w, i32_w]
                    rfl
                   refine pure_ (i := 29) (N := some 106) (v := ?_) (a' := ?_) #[true, true, true, true, true, true, true, true, true, true, true, true, true, true, true, true, true, true, true, true, true, true, true, true, true, true, true, true, true, true, true, false, false, false, false] rfl rfl (any_of HT_.out (by kernel_rfl)) (fun _ _ _ h => h) (Or.inl ⟨by rfl, ?_⟩) ?_ ?_
                   rotate_left
                   ·intro w'
                    go_simp
                    with_reducible rfl
                   rotate_left
                   ·simp only [Act.put, sz1, sz2, sz3, i64_w, i32_w]
                    rfl
                   refine take_ (i := 31) (N := some 108) (v := ?_) (a' := ?_) #[true, true, true, true, true, true, true, true, true, true, true, true, true, true, true, true, true, true, true, true, true, true, true, true, true, true, true, true, true, true, true, true, false, false, false] rfl rfl (take_ofW HT_.out HW_.out (by kernel_rfl)) (fun _ _ _ h => h) (Or.inl ⟨by rfl, ?_⟩) hHeld ?_ ?_
                   rotate_left
                   ·rintro w' ⟨s0, s1, s2, s3, s4, s5⟩
                    go_simp
                    with_reducible rfl
                   rotate_left
                   ·simp only [Act.put, sz1, sz2, sz3, i64_w, i32_w]
                    rfl
                   refine pure_ (i := 32) (N := some 109) (v := ?_) (a' := ?_) #[true, true, true, true, true, true, true, true, true, true, true, true, true, true, true, true, true, true, true, true, true, true, true, true, true, true, true, true, true, true, true, true, true, false, false] rfl rfl (any_of HT_.out (by kernel_rfl)) (fun _ _ _ h => h) (Or.inl ⟨by rfl, ?_⟩) ?_ ?_
                   rotate_left
                   ·intro w'
                    go_simp
                    with_reducible rfl
                   rotate_left
                   ·simp only [Act.put, sz1, sz2, sz3, i64_w, i32_w]
                    rfl
                   refine pure_ (i := 33) (N := some 110) (v := ?_) (a' := ?_) #[true, true, true, true, true, true, true, true, true, true, true, true, true, true, true, true, true, true, true, true, true, true, true, true, true, true, true, true, true, true, true, true, true, true, false] rfl rfl (any_of HT_.out (by kernel_rfl)) (fun _ _ _ h => h) (Or.inl ⟨by rfl, ?_⟩) ?_ ?_
                   rotate_left
                   ·intro w'
                    go_simp
                    with_reducible rfl
                   rotate_left
                   ·simp only [Act.put, sz1, sz2, sz3, i64_w, i32_w]
                    rfl
                   refine last_ (i := 34) (N := none) #[true, true, true, true, true, true, true, true, true, true, true, true, true, true, true, true, true, true, true, true, true, true, true, true, true, true, true, true, true, true, true, true, true, true, true] rfl rfl (one_of HT_.out (by kernel_rfl)) (by decide) (fun K hK => ?_)
                   refine skip_ (w1 := ?_) (by rfl) rfl ?_ ?_
                   rotate_left
                   ·go_simp
                    rfl
                   refine hK.out _ _ ?_
                   clear hK K
                   refine done_ (done_of HT_.out (by kernel_rfl)) ?_
                   try go_wp2
                   go_roundg k3
                   case measure => have := HK1.out; have := HK2.out; have := HK3.out; omega
                   case rel => exact ⟨(y218), (wrap64 (x13_3 + 1)), (by first | rfl | (simp; done) | (simp [*]; done)), H', ⟨by have := HK1.out; have := HK2.out; have := HK3.out; omega⟩, ⟨by (with_reducible repeat (first | apply Kd.R_alloc | apply Kd.R_drewN | apply Kd.R_drew)); exact HQ52.out⟩, ⟨by (with_reducible repeat (first | refine kN ?_ _ | refine kD ?_ | refine kA ?_ _)); refine blk_far ?_ (by have h_ := Kd.R_ne HO_9.out BK196.out (by decide); intro e_; exact h_ (by rw [e_]; rfl)) _; (with_reducible repeat (first | refine kN ?_ _ | refine kD ?_ | refine kA ?_ _)); exact BK196.out⟩, ⟨by repeat (first | (with_reducible first | exact HB.out | apply bA | apply bN | apply bD | refine bS ?_ GB48.out | refine bS ?_ GE196.out) | exact HB.out)⟩⟩
                 ·rw [if_neg c46] at H
                  exact absurd H (by simp)
                ·rw [if_neg c45] at H
                 exact absurd H (by simp)
               ·rw [if_neg c44] at H
                exact absurd H (by simp)
              ·rw [if_neg c43] at H
               exact absurd H (by simp)
             ·rw [if_neg c42] at H
              exact absurd H (by simp)
            ·rw [if_neg c41] at H
             exact absurd H (by simp)
           ·rw [if_neg c39] at H
            have c39b0 : decide (x13_3 < a0_1) = false := decide_eq_false c39
            clear c39
            have H' := Q9a.mk H
            clear H
            have hcz53_0 : wr.cell? ⟨gb196, 0, none⟩ = some (.int .i64 a0_0) := (kC BK196.out 0).trans rfl
            have hcz53_1 : wr.cell? ⟨gb196, 1, none⟩ = some (.int .i64 a0_1) := (kC BK196.out 1).trans rfl
            have hcz53_2 : wr.cell? ⟨gb196, 2, none⟩ = some (.slice A0_2 l0_2.length c0_2) := (kC BK196.out 2).trans rfl
            have hfz53_0 := kF BK196.out 0
            have hfz53_1 := kF BK196.out 1
            have hfz53_2 := kF BK196.out 2
            go_wp2
            go_roundg k3
            case measure => have := HK1.out; have := HK2.out; have := HK3.out; omega
            case rel => exact ⟨(x9_3), (wrap64 (x12_2 - 1)), (by first | rfl | (simp; done) | (simp [*]; done)), H', ⟨by have := HK1.out; have := HK2.out; have := HK3.out; omega⟩, ⟨by (with_reducible repeat (first | apply Kd.R_alloc | apply Kd.R_drewN | apply Kd.R_drew)); exact HO_9.out⟩, ⟨by (with_reducible repeat (first | refine kN ?_ _ | refine kD ?_ | refine kA ?_ _)); exact BK196.out⟩, ⟨by repeat (first | (with_reducible first | exact HB.out | apply bA | apply bN | apply bD | refine bS ?_ GE196.out) | exact HB.out)⟩⟩
        ·rw [if_neg c37] at H
         have c37b0 : decide (a0_1 ≤ x12_2) = false := decide_eq_false c37
         clear c37
         by_cases c54 : 0 ≤ a0_1
         ·rw [if_pos c54] at H
          have c54b0 := eq_true c54
          have c54b1 : decide (0 ≤ a0_1) = true := decide_eq_true c54
          clear c54
          by_cases c55 : a0_1 ≤ (x9_2.length : Int)
          ·rw [if_pos c55] at H
           have c55b0 := eq_true c55
           have c55b1 : decide (a0_1 ≤ (x9_2.length : Int)) = true := decide_eq_true c55
           clear c55
           obtain ⟨y210, hy210⟩ : ∃ y_ : List Int, y_ = (x9_2.take (a0_1 : Int).toNat) := ⟨_, rfl⟩
           replace H : ((r4Value.f k2 a0_0 a0_1 l0_2 y210).bind fun t214 => (some t214)) = some r := by first | (rw [hy210]; with_reducible exact H) | (have H2_ := (Option.bind_some _ _).symm.trans H; rw [hy210]; with_reducible exact H2_) | (have H2_ := (Option.bind_some _ _).symm.trans H; with_reducible exact H2_) | with_reducible exact H | (rw [hy210]; exact H) | exact H
           have Ny210 := Q9a.mk hy210
           clear hy210
           replace H := Option.bind_eq_some_iff.mp H
           obtain ⟨t214, A560, H⟩ := H
           replace H : (some t214) = some r := H
           have A56 := Q9a.mk A560
           clear A560
           obtain rfl := Option.some.inj H
           have hcz57_0 : wr.cell? ⟨gb196, 0, none⟩ = some (.int .i64 a0_0) := (kC BK196.out 0).trans rfl
           have hcz57_1 : wr.cell? ⟨gb196, 1, none⟩ = some (.int .i64 a0_1) := (kC BK196.out 1).trans rfl
           have hcz57_2 : wr.cell? ⟨gb196, 2, none⟩ = some (.slice A0_2 l0_2.length c0_2) := (kC BK196.out 2).trans rfl
           have hfz57_0 := kF BK196.out 0
           have hfz57_1 := kF BK196.out 1
           have hfz57_2 := kF BK196.out 2
           try go_wp2
           have n0_ := Q9a.mk (Kd.R_drew HO_9.out)
           have n1_ := Q9a.mk (kD BK196.out)
           have n2_ := Q9a.mk (bD HB.out)
           clear HO_9
           clear BK196
           clear HB
           have HO_9 := n0_
           have BK196 := n1_
           have HB := n2_
           clear n0_ n1_ n2_
           obtain ⟨Ao60, co60, eo60⟩ := Kd.R_slice HO_9.out
           (first | subst eo60 | (injection eo60 with f1_ f2_ f3_; have f4_ := f1_.symm; have f5_ := f3_.symm; clear f1_ f2_ f3_; subst f4_; subst f5_))
           have q59 : (a0_1 : Int) ≤ ((x9_2.length : Int) : Int) := of_decide_eq_true (by first | (with_reducible assumption) | assumption)
           obtain ⟨i059, hi059, _, hsz59, _⟩ := info_parts info3
           have hroom59 : x9_2.length ≤ co60 := (Kd.R_reads' HO_9.out).2.1
           have hC59 : Kd.C (Kd.int .i64) _ Ao60 x9_2.length x9_2 := (Kd.R_reads' HO_9.out).2.2
           have hcut59 := cut_to (P := Try.prog) 22 3 .i64 Try.underlying22 hi059 Ao60 x9_2.length co60 a0_1 (of_decide_eq_true (by first | (with_reducible assumption) | assumption)) q59 hroom59
           have hr59 := Kd.C_take (m := (a0_1 : Int).toNat) hC59 (by omega)
           have hy59 : y210.length = (a0_1 : Int).toNat := (by rw [Ny210.out, List.length_take]; omega)
           rw [← Ny210.out] at hr59
           rw [← hy59] at hcut59
           have HR213 := Q9a.mk hr59
           have HC213 := Q9a.mk (show y210.length ≤ co60 from by omega)
           clear hr59 hC59 hroom59 hi059 hsz59
           have KY59 := Q9a.mk hy59
           clear hy59
           have KL59 := Q9a.mk (show (a0_1 : Int).toNat ≤ x9_2.length from by omega)
           replace q59 := eq_true q59
           refine start_ (n := 7) (S := fun w' => w'.cell? ⟨gb196, 0, none⟩ = some (.int .i64 a0_0) ∧ w'.cell? ⟨gb196, 1, none⟩ = some (.int .i64 a0_1) ∧ w'.cell? ⟨gb196, 2, none⟩ = some (.slice A0_2 l0_2.length c0_2)) (ds := []) #[false, false, false, false, false, false, false] (by kernel_rfl) rfl rfl ⟨(kC BK196.out 0).trans rfl, (kC BK196.out 1).trans rfl, (kC BK196.out 2).trans rfl⟩ (fun hHeld => ?_)
           generalize wr.drew = w58 at HO_9 BK196 HB HR213 hHeld ⊢
           refine pure_ (i := 1) (N := some 112) (v := ?_) (a' := ?_) #[false, true, false, false, false, false, false] rfl rfl (by kernel_rfl) (fun _ _ _ h => h) (Or.inl ⟨by rfl, ?_⟩) ?_ ?_
           rotate_left
           ·intro w'
            go_simp
            with_reducible rfl
           rotate_left
           ·simp only [Act.put, sz1, sz2, sz3, i64_w, i32_w]
            rfl
           refine pure_ (i := 2) (N := some 113) (v := ?_) (a' := ?_) #[false, true, true, false, false, false, false] rfl rfl (by kernel_rfl) (fun _ _ _ h => h) (Or.inl ⟨by rfl, ?_⟩) ?_ ?_
           rotate_left
           ·intro w'
            go_simp
            with_reducible rfl
           rotate_left
           ·simp only [Act.put, sz1, sz2, sz3, i64_w, i32_w]
            rfl
           refine take_ (i := 0) (N := some 111) (v := ?_) (a' := ?_) #[true, true, true, false, false, false, false] rfl rfl (by kernel_rfl) (fun _ _ _ h => h) (Or.inl ⟨by rfl, ?_⟩) hHeld ?_ ?_
           rotate_left
           ·rintro w' ⟨s0, s1, s2⟩
            go_simp
            with_reducible rfl
           rotate_left
           ·simp only [Act.put, sz1, sz2, sz3, i64_w, i32_w]
            rfl
           refine take_ (i := 3) (N := some 114) (v := ?_) (a' := ?_) #[true, true, true, true, false, false, false] rfl rfl (by kernel_rfl) (fun _ _ _ h => h) (Or.inl ⟨by rfl, ?_⟩) hHeld ?_ ?_
           rotate_left
           ·rintro w' ⟨s0, s1, s2⟩
            go_simp
            with_reducible rfl
           rotate_left
           ·simp only [Act.put, sz1, sz2, sz3, i64_w, i32_w]
            rfl
           refine pure_ (i := 4) (N := some 115) (v := ?_) (a' := ?_) #[true, true, true, true, true, false, false] rfl rfl (by kernel_rfl) (fun _ _ _ h => h) (Or.inl ⟨by rfl, ?_⟩) ?_ ?_
           rotate_left
           ·intro w'
            go_simp
            with_reducible rfl
           rotate_left
           ·simp only [Act.put, sz1, sz2, sz3, i64_w, i32_w]
            rfl
           refine one_ (i := 5) (N := some 116) #[true, true, true, true, true, true, false] rfl rfl (by kernel_rfl) (by decide) (fun K hK => ?_)
           refine goes_ Try.func44 (by kernel_rfl) rfl #[.agg #[.int .i64 a0_0, .int .i64 a0_1, .slice A0_2 l0_2.length c0_2], .slice Ao60 y210.length co60] (by rfl) rfl rfl (by (try simp only [List.map_toArray, List.map_cons, List.map_nil]); first | done | rfl | (simp only [List.length_drop, List.length_take]; rfl)) ?_
           with_reducible refine (r4Value.calls k2 a0_0 a0_1 _ _ l0_2 _ _ y210 t214 _ ?side1 ?side2 ?side3 ?side4 A56.out).mono ?_
           (case side1 => repeat (first | exact (Kd.C_below HR0_2.out HB.out) | (with_reducible refine Kd.C_alloc ?_ _) | (with_reducible refine Kd.C_drewN ?_ _) | (with_reducible refine Kd.C_drew ?_)))
           (case side2 => exact HC0_2.out)
           (case side3 => repeat (first | exact (by repeat (first | (with_reducible exact HR213.out) | (with_reducible refine Kd.C_alloc ?_ _) | (with_reducible refine Kd.C_drewN ?_ _) | (with_reducible refine Kd.C_drew ?_) | exact HR213.out)) | (with_reducible refine Kd.C_alloc ?_ _) | (with_reducible refine Kd.C_drewN ?_ _) | (with_reducible refine Kd.C_drew ?_)))
           (case side4 => exact HC213.out)
           rintro e w61 ⟨rfl, hb⟩
           refine ⟨_, rfl, ?_⟩
           have n0_ := Q9a.mk (Kd.R_below (by (with_reducible repeat (first | apply Kd.R_alloc | apply Kd.R_drewN | apply Kd.R_drew)); exact HO_9.out) hb)
           have n1_ := Q9a.mk (kB (g := gb196) (o := .cells #[.int .i64 a0_0, .int .i64 a0_1, .slice A0_2 l0_2.length c0_2] 24 (0, 0)) (by (with_reducible repeat (first | refine kN ?_ _ | refine kD ?_ | refine kA ?_ _)); exact BK196.out) hb)
           have n2_ := Q9a.mk (Kd.C_below (by repeat (first | (with_reducible exact HR213.out) | (with_reducible refine Kd.C_alloc ?_ _) | (with_reducible refine Kd.C_drewN ?_ _) | (with_reducible refine Kd.C_drew ?_) | exact HR213.out)) hb)
           have n3_ := Q9a.mk (bP (by repeat (first | (with_reducible first | exact HB.out | apply bA | apply bN | apply bD | refine bS ?_ GE196.out) | exact HB.out)) hb)
           clear HO_9
           clear BK196
           clear HR213
           clear HB
           have HO_9 := n0_
           have BK196 := n1_
           have HR213 := n2_
           have HB := n3_
           clear n0_ n1_ n2_ n3_
           (try clear hb)
           (try clear hb2)
           (try clear hk)
           (try clear hi)
           refine hK.out _ _ ⟨(kC BK196.out 0).trans rfl, (kC BK196.out 1).trans rfl, (kC BK196.out 2).trans rfl⟩ (fun hHeld => ?_)
           clear hK K
           refine norm_ (a' := ?_) ?_ ?_
           rotate_left
           ·show Act.put _ (some 116) _ = _
            simp only [Act.put, sz1, sz2, sz3, i64_w, i32_w]
            rfl
           refine pure_ (i := 6) (N := some 6) (v := ?_) (a' := ?_) #[true, true, true, true, true, true, true] rfl rfl (by kernel_rfl) (fun _ _ _ h => h) (Or.inl ⟨by rfl, ?_⟩) ?_ ?_
           rotate_left
           ·intro w'
            go_simp
            with_reducible rfl
           rotate_left
           ·simp only [Act.put, sz1, sz2, sz3, i64_w, i32_w]
            rfl
           refine done_ (by kernel_rfl) ?_
           try go_wp2
           go_ret
           exact ⟨by first | rfl | (simp [eN, eS] <;> rfl) | (simp only [← hji6]; first | rfl | (simp [eN, eS] <;> rfl)) | (simp [*, eN, eS] <;> rfl), by repeat (first | (with_reducible first | exact HB.out | apply bA | apply bN | apply bD | refine bS ?_ GE196.out) | exact HB.out)⟩
          ·rw [if_neg c55] at H
           exact absurd H (by simp)
         ·rw [if_neg c54] at H
          exact absurd H (by simp)
  ·rw [if_neg c8] at H
   exact absurd H (by simp)
 ·rw [if_neg c7] at H
  exact absurd H (by simp)
end
end Go.Proofs.Ytoambdpchjeklaa.P
end
-- Pa7
section
namespace Go.Proofs.Ytoambdpchjeklaa.P
noncomputable section
open Go.RowKit Go.Proofs.Ytoambdpchjeklaa.Hand Go.Proofs.YtoambdpchjeklaaW.PrintWords Go.Proofs.YtoambdpchjeklaaW.PrintLast Go.Proofs.YtoambdpchjeklaaW.PrintMore
set_option linter.unusedVariables false
set_option linter.unusedSimpArgs false
mutual
def r4Pow.j0 : Nat → Int → Int → Bool → Int → Int → List Int → Option (Int × Int)
 | 0, _, _, _, _, _, _ => none
 | k + 1, x1, x2, x21, x220000, x220001, x220002 => if x21 = true then (some (0, 7)) else (if x1 = 0 then (some (0, 0)) else ((r4Order.f k x220000 x220001 x220002).bind fun t221 => (if (wrap64 (t221 - 1)) = 0 then (none) else (r4Pow.l0 k x1 (Int.tmod (wrap64 ((Int.tmod x2 (wrap64 (t221 - 1))) + (wrap64 (t221 - 1)))) (wrap64 (t221 - 1))) 1 0 x220000 x220001 x220002))))
def r4Pow.l0 : Nat → Int → Int → Int → Int → Int → Int → List Int → Option (Int × Int)
 | 0, _, _, _, _, _, _, _ => none
 | k + 1, x1, x2, x9, x10, x220000, x220001, x220002 => if x10 < x2 then ((r4Mul.f k x220000 x220001 x220002 x9 x1).bind fun t222 => (r4Pow.l0 k x1 x2 t222 (wrap64 (x10 + 1)) x220000 x220001 x220002)) else (some (x9, 0))
end
def r4Pow.f (k : Nat) (a0_0 : Int) (a0_1 : Int) (l0_2 : List Int) (a1 : Int) (a2 : Int) : Option (Int × Int) := (r4In.f k a0_0 a0_1 l0_2 a1).bind fun t220 => (if a2 = 0 then (some (1, 0)) else (if t220 = 0 then (r4Pow.j0 k t220 a2 (decide (a2 < 0)) a0_0 a0_1 l0_2) else (r4Pow.j0 k t220 a2 false a0_0 a0_1 l0_2)))
def r7Frobenius.l0 : Nat → Int → Int → Int → Int → Int → List Int → Option (Int)
 | 0, _, _, _, _, _, _ => none
 | k + 1, x1, x2, x7, x224000, x224001, x224002 => if x7 < x2 then ((r4Pow.f k x224000 x224001 x224002 x1 x224000).bind fun bt225 => (r7Frobenius.l0 k bt225.1 x2 (wrap64 (x7 + 1)) x224000 x224001 x224002)) else (some x1)
def r7Frobenius.f (k : Nat) (a0_0 : Int) (a0_1 : Int) (l0_2 : List Int) (a1 : Int) (a2 : Int) : Option (Int) := (r4In.f k a0_0 a0_1 l0_2 a1).bind fun t224 => (r7Frobenius.l0 k t224 a2 0 a0_0 a0_1 l0_2)
def r4Add.l0 : Nat → List Int → List Int → Int → Int → Int → List Int → Option (Int)
 | 0, _, _, _, _, _, _ => none
 | k + 1, x7, x8, x9, x229000, x229001, x229002 => if x9 < (x7.length : Int) then (if 0 ≤ x9 then (if x9 < (x8.length : Int) then (if x229000 = 0 then (none) else (r4Add.l0 k (x7.set (x9 : Int).toNat (Int.tmod (wrap64 ((rd x7 x9) + (rd x8 x9))) x229000)) x8 (wrap64 (x9 + 1)) x229000 x229001 x229002)) else (none)) else (none)) else ((r4Value.f k x229000 x229001 x229002 x7).bind fun t238 => (some t238))
def r4Add.f (k : Nat) (a0_0 : Int) (a0_1 : Int) (l0_2 : List Int) (a1 : Int) (a2 : Int) : Option (Int) := (r4Digits.f k a0_0 a0_1 l0_2 a1).bind fun t229 => ((r4Digits.f k a0_0 a0_1 l0_2 a2).bind fun t232 => (r4Add.l0 k t229 t232 0 a0_0 a0_1 l0_2))
def r4Add.T6 : Bool × List (List Nat × List Nat) := (true, [([], []), ([], []), ([], []), ([], []), ([2, 3], [2, 3]), ([4], [4]), ([], []), ([], []), ([6, 7], [6, 7]), ([8], [8]), ([5, 9], [5, 9]), ([], []), ([11], [11]), ([10, 12], [10, 12]), ([0, 1, 0, 1, 2, 3, 4, 5, 6, 7, 8, 9, 10, 11, 12, 13], [0, 1]), ([14, 13, 0, 1, 2, 3, 4, 5, 6, 7, 8, 9, 10, 11, 12, 13], [13, 14])])
def r4Add.B6 : List Nat := [0, 0, 0, 0, 12, 28, 0, 0, 192, 448, 1020, 0, 2048, 8188, 16383, 32767]
theorem r4Add.tab6 : rtab .any (opsOf Try.f17 6) = r4Add.T6 := by kernel_rfl
theorem r4Add.bits6 : waitsOk r4Add.T6.2 r4Add.B6 = true := by kernel_rfl
set_option maxHeartbeats 8000000 in
set_option maxRecDepth 100000 in
theorem r4Add.calls (k : Nat) (a0_0 : Int) (a0_1 : Int) (A0_2 : Option Addr) (c0_2 : Nat) (l0_2 : List Int) (a1 : Int) (a2 : Int) (r : Int) (w : World) (hr0_2 : Kd.C (Kd.int .i64) w A0_2 l0_2.length l0_2) (hc0_2 : l0_2.length ≤ c0_2) (h : r4Add.f k a0_0 a0_1 l0_2 a1 a2 = some r) :
  Calls Try.prog 17 #[.agg #[.int .i64 a0_0, .int .i64 a0_1, .slice A0_2 l0_2.length c0_2], .int .i64 a1, .int .i64 a2] w fun e w' => e = .returned (.int .i64 r) ∧ Below w.heap.size w w' := by
 have hu24 := Try.underlying24
 have HR0_2 := Q9a.mk hr0_2
 have HC0_2 := Q9a.mk hc0_2
 clear hr0_2 hc0_2
 have HB := Q9a.mk (Below.refl w.heap.size w)
 have H : ((r4Digits.f k a0_0 a0_1 l0_2 a1).bind fun t229 => ((r4Digits.f k a0_0 a0_1 l0_2 a2).bind fun t232 => (r4Add.l0 k t229 t232 0 a0_0 a0_1 l0_2))) = some r := h
 clear h
 replace H := Option.bind_eq_some_iff.mp H
 obtain ⟨t229, A40, H⟩ := H
 replace H : ((r4Digits.f k a0_0 a0_1 l0_2 a2).bind fun t232 => (r4Add.l0 k t229 t232 0 a0_0 a0_1 l0_2)) = some r := H
 have A4 := Q9a.mk A40
 clear A40
 replace H := Option.bind_eq_some_iff.mp H
 obtain ⟨t232, A50, H⟩ := H
 replace H : (r4Add.l0 k t229 t232 0 a0_0 a0_1 l0_2) = some r := H
 have A5 := Q9a.mk A50
 clear A50
 have H' := Q9a.mk H
 clear H
 go_enter Try.func17, Try.ntmps17
 go_wp2_with (first | ((with_reducible refine gate_dst (N := 3) rfl ?_); refine box_event ?hg (N := 3) ?hd (cs := #[.int .i64 a0_0, .int .i64 a0_1, .slice A0_2 l0_2.length c0_2]) (t := 24) ?hr ?_; (case hd => rfl); (case hg => rfl); (case hr => first | (go_simp; done) | (go_simp; rfl)); intro gb228 hg w6 hbox hb; have n0_ := Q9a.mk (bP (by repeat (first | (with_reducible first | exact HB.out | apply bA | apply bN | apply bD) | exact HB.out)) hb); have n1_ := Q9a.mk (hbox); have n2_ := Q9a.mk ((by rw [hg]; exact (bZ (by repeat (first | (with_reducible first | exact HB.out | apply bA | apply bN | apply bD) | exact HB.out))) : w.heap.size ≤ gb228)); have n3_ := Q9a.mk ((by rw [hg]; exact (bZ (by repeat (first | (with_reducible first | exact HB.out | apply bA | apply bN | apply bD) | exact HB.out))) : w.heap.size ≤ gb228)); clear HB; have HB := n0_; have BK228 := n1_; have GW228 := n2_; have GE228 := n3_; clear n0_ n1_ n2_ n3_; clear hb hbox hg; have hcz7_0 : w6.cell? ⟨gb228, 0, none⟩ = some (.int .i64 a0_0) := (kC BK228.out 0).trans rfl; have hcz7_1 : w6.cell? ⟨gb228, 1, none⟩ = some (.int .i64 a0_1) := (kC BK228.out 1).trans rfl; have hcz7_2 : w6.cell? ⟨gb228, 2, none⟩ = some (.slice A0_2 l0_2.length c0_2) := (kC BK228.out 2).trans rfl; have hfz7_0 := kF BK228.out 0; have hfz7_1 := kF BK228.out 1; have hfz7_2 := kF BK228.out 2) | ((with_reducible refine gate_callee (f := 43) rfl ?_); refine goesL_ (some 12) rfl rfl Try.func43 (by kernel_rfl) rfl #[.agg #[.int .i64 a0_0, .int .i64 a0_1, .slice A0_2 l0_2.length c0_2], .int .i64 a1] rfl (by (try simp only [List.map_toArray, List.map_cons, List.map_nil]); first | done | rfl | (simp only [List.length_drop, List.length_take]; rfl)) ?_; (with_reducible refine (r4Digits.calls k a0_0 a0_1 _ _ l0_2 a1 t229 _ ?side1 ?side2 A4.out).mono ?_); (case side1 => repeat (first | exact (Kd.C_below HR0_2.out HB.out) | (with_reducible refine Kd.C_alloc ?_ _) | (with_reducible refine Kd.C_drewN ?_ _) | (with_reducible refine Kd.C_drew ?_))); (case side2 => exact HC0_2.out); rintro e w8 ⟨v230, rfl, ho0, hb⟩; refine ⟨_, rfl, ?_⟩; have n0_ := Q9a.mk (Kd.R_lower ho0 (bZ (by repeat (first | (with_reducible first | exact HB.out | apply bA | apply bN | apply bD | refine bS ?_ GE228.out) | exact HB.out)))); have n1_ := Q9a.mk (kB (g := gb228) (o := .cells #[.int .i64 a0_0, .int .i64 a0_1, .slice A0_2 l0_2.length c0_2] 24 (0, 0)) (by (with_reducible repeat (first | refine kN ?_ _ | refine kD ?_ | refine kA ?_ _)); exact BK228.out) hb); have n2_ := Q9a.mk (bP (by repeat (first | (with_reducible first | exact HB.out | apply bA | apply bN | apply bD | refine bS ?_ GE228.out) | exact HB.out)) hb); clear BK228; clear HB; have HO231 := n0_; have BK228 := n1_; have HB := n2_; clear n0_ n1_ n2_; (try clear hb); (try clear hb2); (try clear hk); (try clear hi); (try clear ho0); have hcz9_0 : w8.cell? ⟨gb228, 0, none⟩ = some (.int .i64 a0_0) := (kC BK228.out 0).trans rfl; have hcz9_1 : w8.cell? ⟨gb228, 1, none⟩ = some (.int .i64 a0_1) := (kC BK228.out 1).trans rfl; have hcz9_2 : w8.cell? ⟨gb228, 2, none⟩ = some (.slice A0_2 l0_2.length c0_2) := (kC BK228.out 2).trans rfl; have hfz9_0 := kF BK228.out 0; have hfz9_1 := kF BK228.out 1; have hfz9_2 := kF BK228.out 2) | ((with_reducible refine gate_callee (f := 43) rfl ?_); refine goesL_ (some 15) rfl rfl Try.func43 (by kernel_rfl) rfl #[.agg #[.int .i64 a0_0, .int .i64 a0_1, .slice A0_2 l0_2.length c0_2], .int .i64 a2] rfl (by (try simp only [List.map_toArray, List.map_cons, List.map_nil]); first | done | rfl | (simp only [List.length_drop, List.length_take]; rfl)) ?_; (with_reducible refine (r4Digits.calls k a0_0 a0_1 _ _ l0_2 a2 t232 _ ?side1 ?side2 A5.out).mono ?_); (case side1 => repeat (first | exact (Kd.C_below HR0_2.out HB.out) | (with_reducible refine Kd.C_alloc ?_ _) | (with_reducible refine Kd.C_drewN ?_ _) | (with_reducible refine Kd.C_drew ?_))); (case side2 => exact HC0_2.out); rintro e w10 ⟨v233, rfl, ho0, hb⟩; refine ⟨_, rfl, ?_⟩; have n0_ := Q9a.mk (Kd.R_elder' (by (with_reducible repeat (first | apply Kd.R_alloc | apply Kd.R_drewN | apply Kd.R_drew)); exact HO231.out) (Kd.R_base ho0) hb); have n1_ := Q9a.mk (Kd.R_lower (Kd.R_new' ho0 (Kd.R_lt (by (with_reducible repeat (first | apply Kd.R_alloc | apply Kd.R_drewN | apply Kd.R_drew)); exact HO231.out))) (bZ (by repeat (first | (with_reducible first | exact HB.out | apply bA | apply bN | apply bD | refine bS ?_ GE228.out) | exact HB.out)))); have n2_ := Q9a.mk (kB (g := gb228) (o := .cells #[.int .i64 a0_0, .int .i64 a0_1, .slice A0_2 l0_2.length c0_2] 24 (0, 0)) (by (with_reducible repeat (first | refine kN ?_ _ | refine kD ?_ | refine kA ?_ _)); exact BK228.out) hb); have n3_ := Q9a.mk (bP (by repeat (first | (with_reducible first | exact HB.out | apply bA | apply bN | apply bD | refine bS ?_ GE228.out) | exact HB.out)) hb); clear HO231; clear BK228; clear HB; have HO231 := n0_; have HO234 := n1_; have BK228 := n2_; have HB := n3_; clear n0_ n1_ n2_ n3_; (try clear hb); (try clear hb2); (try clear hk); (try clear hi); (try clear ho0)))
 go_loopg [9] k (fun kq v9 w' => ∃ (x7_1 : List Int) (x9_1 : Int), v9 = .int .i64 x9_1 ∧ Q9a (r4Add.l0 kq x7_1 t232 x9_1 a0_0 a0_1 l0_2 = some r) ∧ Q9a (kq ≤ k) ∧ Q9a (Kd.R (Kd.int .i64) 3 w' w.heap.size (fun k_ => some k_ ≠ (v233 : Value).ownBlock) v230 x7_1) ∧ Q9a (Kd.R (Kd.int .i64) 3 w' w.heap.size (fun k_ => some k_ ≠ (v230 : Value).ownBlock) v233 t232) ∧ Q9a (w'.heap[gb228]? = some (.cells #[.int .i64 a0_0, .int .i64 a0_1, (.slice A0_2 l0_2.length c0_2)] 24 (0, 0))) ∧ Q9a (Below w.heap.size w w'))
 case atStart => exact ⟨(t229), (0), (by first | rfl | (simp; done) | (simp [*]; done)), H', ⟨Nat.le_refl _⟩, ⟨by (with_reducible repeat (first | apply Kd.R_alloc | apply Kd.R_drewN | apply Kd.R_drew)); exact Kd.R_mono HO231.out (fun _ hk => hk.2)⟩, ⟨by (with_reducible repeat (first | apply Kd.R_alloc | apply Kd.R_drewN | apply Kd.R_drew)); exact Kd.R_mono HO234.out (fun _ hk => hk.2)⟩, ⟨by (with_reducible repeat (first | refine kN ?_ _ | refine kD ?_ | refine kA ?_ _)); exact BK228.out⟩, ⟨by repeat (first | (with_reducible first | exact HB.out | apply bA | apply bN | apply bD | refine bS ?_ GE228.out) | exact HB.out)⟩⟩
 case round =>
  clear H'
  try clear c1
  try clear p2
  try clear c4
  try clear hcz7_0
  try clear hcz7_1
  try clear hcz7_2
  try clear hcz9_0
  try clear hcz9_1
  try clear hcz9_2
  try clear hfz7_0
  try clear hfz7_1
  try clear hfz7_2
  try clear hfz9_0
  try clear hfz9_1
  try clear hfz9_2
  obtain ⟨x7_1, x9_1, rfl, HA, HK1, HO_7, HO_8, BK228, HB⟩ := hrel
  cases gk with
  | zero => exact absurd HA.out (by simp [r4Add.l0])
  | succ k1 =>
   have H := HA.out
   clear HA
   simp only [r4Add.l0] at H
   by_cases c11 : x9_1 < (x7_1.length : Int)
   ·rw [if_pos c11] at H
    have c11b0 : decide (x9_1 < (x7_1.length : Int)) = true := decide_eq_true c11
    clear c11
    by_cases c12 : 0 ≤ x9_1
    ·rw [if_pos c12] at H
     have c12b0 : decide (0 ≤ x9_1) = true := decide_eq_true c12
     clear c12
     by_cases c13 : x9_1 < (t232.length : Int)
     ·rw [if_pos c13] at H
      have c13b0 : decide (x9_1 < (t232.length : Int)) = true := decide_eq_true c13
      clear c13
      by_cases c14 : a0_0 = 0
      ·rw [if_pos c14] at H
       exact absurd H (by simp)
      ·rw [if_neg c14] at H
       have c14b0 : (a0_0 == 0) = false := beq_eq_false_iff_ne.mpr c14
       have c14b1 : (a0_0 != 0) = true := bne_iff_ne.mpr c14
       obtain ⟨y237, hy237⟩ : ∃ y_ : List Int, y_ = (x7_1.set (x9_1 : Int).toNat (Int.tmod (wrap64 ((rd x7_1 x9_1) + (rd t232 x9_1))) a0_0)) := ⟨_, rfl⟩
       replace H : (r4Add.l0 k1 y237 t232 (wrap64 (x9_1 + 1)) a0_0 a0_1 l0_2) = some r := by first | (rw [hy237]; with_reducible exact H) | (have H2_ := (Option.bind_some _ _).symm.trans H; rw [hy237]; with_reducible exact H2_) | (have H2_ := (Option.bind_some _ _).symm.trans H; with_reducible exact H2_) | with_reducible exact H | (rw [hy237]; exact H) | exact H
       have Ny237 := Q9a.mk hy237
       clear hy237
       have H' := Q9a.mk H
       clear H
       obtain ⟨Ao16, co16, eo16⟩ := Kd.R_slice HO_7.out
       subst eo16
       try go_wp2
       have n0_ := Q9a.mk (Kd.R_drew HO_7.out)
       have n1_ := Q9a.mk (Kd.R_drew HO_8.out)
       have n2_ := Q9a.mk (kD BK228.out)
       have n3_ := Q9a.mk (bD HB.out)
       clear HO_7
       clear HO_8
       clear BK228
       clear HB
       have HO_7 := n0_
       have HO_8 := n1_
       have BK228 := n2_
       have HB := n3_
       clear n0_ n1_ n2_ n3_
       have p235 : 0 ≤ (x9_1 : Int) := of_decide_eq_true (by first | (with_reducible assumption) | assumption)
       have q235 : x9_1 < (x7_1.length : Int) := of_decide_eq_true (by first | (with_reducible assumption) | assumption)
       obtain ⟨ad235, e235, hx235_0⟩ := Kd.at_int (Kd.R_reads' HO_7.out).2.2 x9_1 p235 q235
       cases e235
       replace p235 := eq_true p235
       replace q235 := eq_true q235
       obtain ⟨Ao18, co18, eo18⟩ := Kd.R_slice HO_8.out
       (first | subst eo18 | (injection eo18 with f1_ f2_ f3_; have f4_ := f1_.symm; have f5_ := f3_.symm; clear f1_ f2_ f3_; subst f4_; subst f5_))
       have p236 : 0 ≤ (x9_1 : Int) := of_decide_eq_true (by first | (with_reducible assumption) | assumption)
       have q236 : x9_1 < (t232.length : Int) := of_decide_eq_true (by first | (with_reducible assumption) | assumption)
       obtain ⟨ad236, e236, hx236_0⟩ := Kd.at_int (Kd.R_reads' HO_8.out).2.2 x9_1 p236 q236
       cases e236
       replace p236 := eq_true p236
       replace q236 := eq_true q236
       have p15 : 0 ≤ (x9_1 : Int) := of_decide_eq_true (by first | (with_reducible assumption) | assumption)
       have q15 : (x9_1 : Int) < ((x7_1.length : Int) : Int) := of_decide_eq_true (by first | (with_reducible assumption) | assumption)
       obtain ⟨go15, co15, eo15, gb15, gl15, cl15, HG15⟩ := Kd.R_form HO_7.out (by omega)
       (first | cases eo15 | (injection eo15 with ea_ en_ ec_; (first | subst ea_ | (injection ea_ with ea_; subst ea_)); subst ec_; clear en_))
       have GB15 := Q9a.mk gb15
       have GG15 := Q9a.mk HG15
       clear gb15 gl15 HG15
       (first | simp only [add_plain] at hx235_0 | skip)
       obtain ⟨hx15_0, hf15_0⟩ := Kd.R_celln 0 HO_7.out (x9_1 : Int) p15 q15
       replace p15 := eq_true p15
       replace q15 := eq_true q15
       have HP19 := Kd.R_putn HO_7.out (x9_1 : Int) (Int.tmod (wrap64 ((rd x7_1 x9_1) + (rd t232 x9_1))) a0_0)
       rw [← Ny237.out] at HP19
       have HQ19 := Q9a.mk HP19
       clear HP19
       refine start_ (n := 16) (S := fun w' => w'.cell? ⟨gb228, 0, none⟩ = some (.int .i64 a0_0) ∧ w'.cell? ⟨gb228, 1, none⟩ = some (.int .i64 a0_1) ∧ w'.cell? ⟨gb228, 2, none⟩ = some (.slice A0_2 l0_2.length c0_2) ∧ w'.cell? ⟨go15, (x9_1).toNat, none⟩ = some (.int .i64 (rd x7_1 x9_1)) ∧ w'.cell? (ad236.add (x9_1).toNat) = some (.int .i64 (rd t232 x9_1))) (ds := [15]) #[false, false, false, false, false, false, false, false, false, false, false, false, false, false, false, false] (by kernel_rfl) rfl rfl ⟨(kC BK228.out 0).trans rfl, (kC BK228.out 1).trans rfl, (kC BK228.out 2).trans rfl, hx235_0, hx236_0⟩ (fun hHeld => ?_); refine with_tabW r4Add.tab6 r4Add.bits6 (fun HT_ HW_ => ?_)
       generalize wr.drew = w17 at HO_7 HO_8 BK228 HB GG15 HQ19 hf15_0 hx15_0 hx235_0 hx236_0 hHeld ⊢
       refine pure_ (i := 0) (N := some 22) (v := ?_) (a' := ?_) #[true, false, false, false, false, false, false, false, false, false, false, false, false, false, false, false] rfl rfl (any_of HT_.out (by kernel_rfl)) (fun _ _ _ h => h) (Or.inl ⟨by rfl, ?_⟩) ?_ ?_
       rotate_left
       ·intro w'
        go_simp
        with_reducible rfl
       rotate_left
       ·simp only [Act.put, sz1, sz2, sz3, i64_w, i32_w]
        rfl
       refine pure_ (i := 1) (N := some 23) (v := ?_) (a' := ?_) #[true, true, false, false, false, false, false, false, false, false, false, false, false, false, false, false] rfl rfl (any_of HT_.out (by kernel_rfl)) (fun _ _ _ h => h) (Or.inl ⟨by rfl, ?_⟩) ?_ ?_
       rotate_left
       ·intro w'
        go_simp
        with_reducible rfl
       rotate_left
       ·simp only [Act.put, sz1, sz2, sz3, i64_w, i32_w]
        rfl
       refine pure_ (i := 2) (N := some 24) (v := ?_) (a' := ?_) #[true, true, true, false, false, false, false, false, false, false, false, false, false, false, false, false] rfl rfl (any_of HT_.out (by kernel_rfl)) (fun _ _ _ h => h) (Or.inl ⟨by rfl, ?_⟩) ?_ ?_
       rotate_left
       ·intro w'
        go_simp
        with_reducible rfl
       rotate_left
       ·simp only [Act.put, sz1, sz2, sz3, i64_w, i32_w]
        rfl
       refine pure_ (i := 3) (N := some 25) (v := ?_) (a' := ?_) #[true, true, true, true, false, false, false, false, false, false, false, false, false, false, false, false] rfl rfl (any_of HT_.out (by kernel_rfl)) (fun _ _ _ h => h) (Or.inl ⟨by rfl, ?_⟩) ?_ ?_
       rotate_left
       ·intro w'
        go_simp
        with_reducible rfl
       rotate_left
       ·simp only [Act.put, sz1, sz2, sz3, i64_w, i32_w]
        rfl
       refine pure_ (i := 4) (N := some 26) (v := ?_) (a' := ?_) #[true, true, true, true, true, false, false, false, false, false, false, false, false, false, false, false] rfl rfl (any_of HT_.out (by kernel_rfl)) (fun _ _ _ h => h) (Or.inl ⟨by rfl, ?_⟩) ?_ ?_
       rotate_left
       ·intro w'
        go_simp
        with_reducible rfl
       rotate_left
       ·simp only [Act.put, sz1, sz2, sz3, i64_w, i32_w]
        rfl
       refine pure_ (i := 6) (N := some 28) (v := ?_) (a' := ?_) #[true, true, true, true, true, false, true, false, false, false, false, false, false, false, false, false] rfl rfl (any_of HT_.out (by kernel_rfl)) (fun _ _ _ h => h) (Or.inl ⟨by rfl, ?_⟩) ?_ ?_
       rotate_left
       ·intro w'
        go_simp
        with_reducible rfl
       rotate_left
       ·simp only [Act.put, sz1, sz2, sz3, i64_w, i32_w]
        rfl
       refine pure_ (i := 7) (N := some 29) (v := ?_) (a' := ?_) #[true, true, true, true, true, false, true, true, false, false, false, false, false, false, false, false] rfl rfl (any_of HT_.out (by kernel_rfl)) (fun _ _ _ h => h) (Or.inl ⟨by rfl, ?_⟩) ?_ ?_
       rotate_left
       ·intro w'
        go_simp
        with_reducible rfl
       rotate_left
       ·simp only [Act.put, sz1, sz2, sz3, i64_w, i32_w]
        rfl
       refine pure_ (i := 8) (N := some 30) (v := ?_) (a' := ?_) #[true, true, true, true, true, false, true, true, true, false, false, false, false, false, false, false] rfl rfl (any_of HT_.out (by kernel_rfl)) (fun _ _ _ h => h) (Or.inl ⟨by rfl, ?_⟩) ?_ ?_
       rotate_left
       ·intro w'
        go_simp
        with_reducible rfl
       rotate_left
       ·simp only [Act.put, sz1, sz2, sz3, i64_w, i32_w]
        rfl
       refine pure_ (i := 11) (N := some 33) (v := ?_) (a' := ?_) #[true, true, true, true, true, false, true, true, true, false, false, true, false, false, false, false] rfl rfl (any_of HT_.out (by kernel_rfl)) (fun _ _ _ h => h) (Or.inl ⟨by rfl, ?_⟩) ?_ ?_
       rotate_left
       ·intro w'
        go_simp
        with_reducible rfl
       rotate_left
       ·simp only [Act.put, sz1, sz2, sz3, i64_w, i32_w]
        rfl
       refine take_ (i := 5) (N := some 27) (v := ?_) (a' := ?_) #[true, true, true, true, true, true, true, true, true, false, false, true, false, false, false, false] rfl rfl (take_ofW HT_.out HW_.out (by kernel_rfl)) (fun _ _ _ h => h) (Or.inl ⟨by rfl, ?_⟩) hHeld ?_ ?_
       rotate_left
       ·rintro w' ⟨s0, s1, s2, s3, s4⟩
        go_simp
        with_reducible rfl
       rotate_left
       ·simp only [Act.put, sz1, sz2, sz3, i64_w, i32_w]
        rfl
       refine take_ (i := 9) (N := some 31) (v := ?_) (a' := ?_) #[true, true, true, true, true, true, true, true, true, true, false, true, false, false, false, false] rfl rfl (take_ofW HT_.out HW_.out (by kernel_rfl)) (fun _ _ _ h => h) (Or.inl ⟨by rfl, ?_⟩) hHeld ?_ ?_
       rotate_left
       ·rintro w' ⟨s0, s1, s2, s3, s4⟩
        go_simp
        with_reducible rfl
       rotate_left
       ·simp only [Act.put, sz1, sz2, sz3, i64_w, i32_w]
        rfl
       refine pure_ (i := 10) (N := some 32) (v := ?_) (a' := ?_) #[true, true, true, true, true, true, true, true, true, true, true, true, false, false, false, false] rfl rfl (any_of HT_.out (by kernel_rfl)) (fun _ _ _ h => h) (Or.inl ⟨by rfl, ?_⟩) ?_ ?_
       rotate_left
       ·intro w'
        go_simp
        with_reducible rfl
       rotate_left
       ·simp only [Act.put, sz1, sz2, sz3, i64_w, i32_w]
        rfl
       refine take_ (i := 12) (N := some 34) (v := ?_) (a' := ?_) #[true, true, true, true, true, true, true, true, true, true, true, true, true, false, false, false] rfl rfl (take_ofW HT_.out HW_.out (by kernel_rfl)) (fun _ _ _ h => h) (Or.inl ⟨by rfl, ?_⟩) hHeld ?_ ?_
       rotate_left
       ·rintro w' ⟨s0, s1, s2, s3, s4⟩
        go_simp
        with_reducible rfl
       rotate_left
       ·simp only [Act.put, sz1, sz2, sz3, i64_w, i32_w]
        rfl
       refine pure_ (i := 13) (N := some 35) (v := ?_) (a' := ?_) #[true, true, true, true, true, true, true, true, true, true, true, true, true, true, false, false] rfl rfl (any_of HT_.out (by kernel_rfl)) (fun _ _ _ h => h) (Or.inl ⟨by rfl, ?_⟩) ?_ ?_
       rotate_left
       ·intro w'
        go_simp
        with_reducible rfl
       rotate_left
       ·simp only [Act.put, sz1, sz2, sz3, i64_w, i32_w]
        rfl
       refine pure_ (i := 14) (N := some 36) (v := ?_) (a' := ?_) #[true, true, true, true, true, true, true, true, true, true, true, true, true, true, true, false] rfl rfl (any_of HT_.out (by kernel_rfl)) (fun _ _ _ h => h) (Or.inl ⟨by rfl, ?_⟩) ?_ ?_
       rotate_left
       ·intro w'
        go_simp
        with_reducible rfl
       rotate_left
       ·simp only [Act.put, sz1, sz2, sz3, i64_w, i32_w]
        rfl
       refine last_ (i := 15) (N := none) #[true, true, true, true, true, true, true, true, true, true, true, true, true, true, true, true] rfl rfl (one_of HT_.out (by kernel_rfl)) (by decide) (fun K hK => ?_)
       refine skip_ (w1 := ?_) (by rfl) rfl ?_ ?_
       rotate_left
       ·go_simp
        rfl
       refine hK.out _ _ ?_
       clear hK K
       refine done_ (done_of HT_.out (by kernel_rfl)) ?_
       try go_wp2
       go_roundg k1
       case measure => have := HK1.out; omega
       case rel => exact ⟨(y237), (wrap64 (x9_1 + 1)), (by first | rfl | (simp; done) | (simp [*]; done)), H', ⟨by have := HK1.out; omega⟩, ⟨by (with_reducible repeat (first | apply Kd.R_alloc | apply Kd.R_drewN | apply Kd.R_drew)); exact HQ19.out⟩, ⟨by (with_reducible repeat (first | apply Kd.R_alloc | apply Kd.R_drewN | apply Kd.R_drew)); exact Kd.R_mono (Kd.R_far (p := ⟨go15, (x9_1 : Int).toNat, none⟩) (Kd.R_mono HO_8.out (fun k_ hk => (⟨hk, fun e_ => hk (by rw [e_]; rfl)⟩ : _ ∧ k_ ≠ go15))) (fun _ hk => hk.2) (.int .i64 (Int.tmod (wrap64 ((rd x7_1 x9_1) + (rd t232 x9_1))) a0_0))) (fun _ hk => hk.1)⟩, ⟨by (with_reducible repeat (first | refine kN ?_ _ | refine kD ?_ | refine kA ?_ _)); refine blk_far ?_ (by have h_ := Kd.R_ne HO_7.out BK228.out (by decide); intro e_; exact h_ (by rw [e_]; rfl)) _; (with_reducible repeat (first | refine kN ?_ _ | refine kD ?_ | refine kA ?_ _)); exact BK228.out⟩, ⟨by repeat (first | (with_reducible first | exact HB.out | apply bA | apply bN | apply bD | refine bS ?_ GB15.out | refine bS ?_ GE228.out) | exact HB.out)⟩⟩
     ·rw [if_neg c13] at H
      exact absurd H (by simp)
    ·rw [if_neg c12] at H
     exact absurd H (by simp)
   ·rw [if_neg c11] at H
    have c11b0 : decide (x9_1 < (x7_1.length : Int)) = false := decide_eq_false c11
    clear c11
    replace H := Option.bind_eq_some_iff.mp H
    obtain ⟨t238, A200, H⟩ := H
    replace H : (some t238) = some r := H
    have A20 := Q9a.mk A200
    clear A200
    obtain rfl := Option.some.inj H
    obtain ⟨Ao21, co21, eo21⟩ := Kd.R_slice HO_7.out
    subst eo21
    have hcz22_0 : wr.cell? ⟨gb228, 0, none⟩ = some (.int .i64 a0_0) := (kC BK228.out 0).trans rfl
    have hcz22_1 : wr.cell? ⟨gb228, 1, none⟩ = some (.int .i64 a0_1) := (kC BK228.out 1).trans rfl
    have hcz22_2 : wr.cell? ⟨gb228, 2, none⟩ = some (.slice A0_2 l0_2.length c0_2) := (kC BK228.out 2).trans rfl
    have hfz22_0 := kF BK228.out 0
    have hfz22_1 := kF BK228.out 1
    have hfz22_2 := kF BK228.out 2
    go_wp2_with (first | ((with_reducible refine gate_callee (f := 44) rfl ?_); refine goesL_ (some 39) rfl rfl Try.func44 (by kernel_rfl) rfl #[.agg #[.int .i64 a0_0, .int .i64 a0_1, .slice A0_2 l0_2.length c0_2], .slice Ao21 x7_1.length co21] rfl (by (try simp only [List.map_toArray, List.map_cons, List.map_nil]); first | done | rfl | (simp only [List.length_drop, List.length_take]; rfl)) ?_; (with_reducible refine (r4Value.calls k1 a0_0 a0_1 _ _ l0_2 _ _ x7_1 t238 _ ?side1 ?side2 ?side3 ?side4 A20.out).mono ?_); (case side1 => repeat (first | exact (Kd.C_below HR0_2.out HB.out) | (with_reducible refine Kd.C_alloc ?_ _) | (with_reducible refine Kd.C_drewN ?_ _) | (with_reducible refine Kd.C_drew ?_))); (case side2 => exact HC0_2.out); (case side3 => repeat (first | exact (Kd.R_reads' HO_7.out).2.2 | (with_reducible refine Kd.C_alloc ?_ _) | (with_reducible refine Kd.C_drewN ?_ _) | (with_reducible refine Kd.C_drew ?_))); (case side4 => exact (Kd.R_reads' HO_7.out).2.1); rintro e w23 ⟨rfl, hb⟩; refine ⟨_, rfl, ?_⟩; have n0_ := Q9a.mk (Kd.R_below (by (with_reducible repeat (first | apply Kd.R_alloc | apply Kd.R_drewN | apply Kd.R_drew)); exact HO_7.out) hb); have n1_ := Q9a.mk (Kd.R_below (by (with_reducible repeat (first | apply Kd.R_alloc | apply Kd.R_drewN | apply Kd.R_drew)); exact HO_8.out) hb); have n2_ := Q9a.mk (kB (g := gb228) (o := .cells #[.int .i64 a0_0, .int .i64 a0_1, .slice A0_2 l0_2.length c0_2] 24 (0, 0)) (by (with_reducible repeat (first | refine kN ?_ _ | refine kD ?_ | refine kA ?_ _)); exact BK228.out) hb); have n3_ := Q9a.mk (bP (by repeat (first | (with_reducible first | exact HB.out | apply bA | apply bN | apply bD | refine bS ?_ GE228.out) | exact HB.out)) hb); clear HO_7; clear HO_8; clear BK228; clear HB; have HO_7 := n0_; have HO_8 := n1_; have BK228 := n2_; have HB := n3_; clear n0_ n1_ n2_ n3_; (try clear hb); (try clear hb2); (try clear hk); (try clear hi)))
    go_ret
    exact ⟨by first | rfl | (simp [eN, eS] <;> rfl) | (simp [*, eN, eS] <;> rfl), by repeat (first | (with_reducible first | exact HB.out | apply bA | apply bN | apply bD | refine bS ?_ GE228.out) | exact HB.out)⟩
def r7Divides.f (a0_0 : Int) (a0_1 : Int) (l0_2 : List Int) (a1 : Int) : Option (Bool) := if a1 ≥ 1 then (if a1 ≤ a0_1 then (if a1 = 0 then (none) else (some ((Int.tmod a0_1 a1) == 0))) else (some false)) else (some false)
set_option maxHeartbeats 8000000 in
set_option maxRecDepth 100000 in
theorem r7Divides.calls (a0_0 : Int) (a0_1 : Int) (A0_2 : Option Addr) (c0_2 : Nat) (l0_2 : List Int) (a1 : Int) (r : Bool) (w : World) (hr0_2 : Kd.C (Kd.int .i64) w A0_2 l0_2.length l0_2) (hc0_2 : l0_2.length ≤ c0_2) (h : r7Divides.f a0_0 a0_1 l0_2 a1 = some r) :
  Calls Try.prog 21 #[.agg #[.int .i64 a0_0, .int .i64 a0_1, .slice A0_2 l0_2.length c0_2], .int .i64 a1] w fun e w' => e = .returned (.bool r) ∧ Below w.heap.size w w' := by
 have hu24 := Try.underlying24
 have HR0_2 := Q9a.mk hr0_2
 have HC0_2 := Q9a.mk hc0_2
 clear hr0_2 hc0_2
 have HB := Q9a.mk (Below.refl w.heap.size w)
 have H : (if a1 ≥ 1 then (if a1 ≤ a0_1 then (if a1 = 0 then (none) else (some ((Int.tmod a0_1 a1) == 0))) else (some false)) else (some false)) = some r := h
 clear h
 by_cases c3 : a1 ≥ 1
 ·rw [if_pos c3] at H
  have c3b0 : decide (1 ≤ a1) = true := decide_eq_true c3
  clear c3
  by_cases c4 : a1 ≤ a0_1
  ·rw [if_pos c4] at H
   have c4b0 : decide (a1 ≤ a0_1) = true := decide_eq_true c4
   clear c4
   by_cases c5 : a1 = 0
   ·rw [if_pos c5] at H
    exact absurd H (by simp)
   ·rw [if_neg c5] at H
    have c5b0 : (a1 == 0) = false := beq_eq_false_iff_ne.mpr c5
    have c5b1 : (a1 != 0) = true := bne_iff_ne.mpr c5
    obtain rfl := Option.some.inj H
    go_enter Try.func21, Try.ntmps21
    go_wp2_with (first | ((with_reducible refine gate_dst (N := 2) rfl ?_); refine box_event ?hg (N := 2) ?hd (cs := #[.int .i64 a0_0, .int .i64 a0_1, .slice A0_2 l0_2.length c0_2]) (t := 24) ?hr ?_; (case hd => rfl); (case hg => rfl); (case hr => first | (go_simp; done) | (go_simp; rfl)); intro gb241 hg w6 hbox hb; have n0_ := Q9a.mk (bP (by repeat (first | (with_reducible first | exact HB.out | apply bA | apply bN | apply bD) | exact HB.out)) hb); have n1_ := Q9a.mk (hbox); have n2_ := Q9a.mk ((by rw [hg]; exact (bZ (by repeat (first | (with_reducible first | exact HB.out | apply bA | apply bN | apply bD) | exact HB.out))) : w.heap.size ≤ gb241)); have n3_ := Q9a.mk ((by rw [hg]; exact (bZ (by repeat (first | (with_reducible first | exact HB.out | apply bA | apply bN | apply bD) | exact HB.out))) : w.heap.size ≤ gb241)); clear HB; have HB := n0_; have BK241 := n1_; have GW241 := n2_; have GE241 := n3_; clear n0_ n1_ n2_ n3_; clear hb hbox hg; have hcz7_0 : w6.cell? ⟨gb241, 0, none⟩ = some (.int .i64 a0_0) := (kC BK241.out 0).trans rfl; have hcz7_1 : w6.cell? ⟨gb241, 1, none⟩ = some (.int .i64 a0_1) := (kC BK241.out 1).trans rfl; have hcz7_2 : w6.cell? ⟨gb241, 2, none⟩ = some (.slice A0_2 l0_2.length c0_2) := (kC BK241.out 2).trans rfl; have hfz7_0 := kF BK241.out 0; have hfz7_1 := kF BK241.out 1; have hfz7_2 := kF BK241.out 2))
    go_ret
    exact ⟨by first | rfl | (simp [eN, eS] <;> rfl) | (simp [*, eN, eS] <;> rfl), by repeat (first | (with_reducible first | exact HB.out | apply bA | apply bN | apply bD | refine bS ?_ GE241.out) | exact HB.out)⟩
  ·rw [if_neg c4] at H
   have c4b0 : decide (a1 ≤ a0_1) = false := decide_eq_false c4
   clear c4
   obtain rfl := Option.some.inj H
   go_enter Try.func21, Try.ntmps21
   go_wp2_with (first | ((with_reducible refine gate_dst (N := 2) rfl ?_); refine box_event ?hg (N := 2) ?hd (cs := #[.int .i64 a0_0, .int .i64 a0_1, .slice A0_2 l0_2.length c0_2]) (t := 24) ?hr ?_; (case hd => rfl); (case hg => rfl); (case hr => first | (go_simp; done) | (go_simp; rfl)); intro gb241 hg w8 hbox hb; have n0_ := Q9a.mk (bP (by repeat (first | (with_reducible first | exact HB.out | apply bA | apply bN | apply bD) | exact HB.out)) hb); have n1_ := Q9a.mk (hbox); have n2_ := Q9a.mk ((by rw [hg]; exact (bZ (by repeat (first | (with_reducible first | exact HB.out | apply bA | apply bN | apply bD) | exact HB.out))) : w.heap.size ≤ gb241)); have n3_ := Q9a.mk ((by rw [hg]; exact (bZ (by repeat (first | (with_reducible first | exact HB.out | apply bA | apply bN | apply bD) | exact HB.out))) : w.heap.size ≤ gb241)); clear HB; have HB := n0_; have BK241 := n1_; have GW241 := n2_; have GE241 := n3_; clear n0_ n1_ n2_ n3_; clear hb hbox hg; have hcz9_0 : w8.cell? ⟨gb241, 0, none⟩ = some (.int .i64 a0_0) := (kC BK241.out 0).trans rfl; have hcz9_1 : w8.cell? ⟨gb241, 1, none⟩ = some (.int .i64 a0_1) := (kC BK241.out 1).trans rfl; have hcz9_2 : w8.cell? ⟨gb241, 2, none⟩ = some (.slice A0_2 l0_2.length c0_2) := (kC BK241.out 2).trans rfl; have hfz9_0 := kF BK241.out 0; have hfz9_1 := kF BK241.out 1; have hfz9_2 := kF BK241.out 2))
   go_ret
   exact ⟨by first | rfl | (simp [eN, eS] <;> rfl) | (simp [*, eN, eS] <;> rfl), by repeat (first | (with_reducible first | exact HB.out | apply bA | apply bN | apply bD | refine bS ?_ GE241.out) | exact HB.out)⟩
 ·rw [if_neg c3] at H
  have c3b0 : decide (1 ≤ a1) = false := decide_eq_false c3
  clear c3
  obtain rfl := Option.some.inj H
  go_enter Try.func21, Try.ntmps21
  go_wp2_with (first | ((with_reducible refine gate_dst (N := 2) rfl ?_); refine box_event ?hg (N := 2) ?hd (cs := #[.int .i64 a0_0, .int .i64 a0_1, .slice A0_2 l0_2.length c0_2]) (t := 24) ?hr ?_; (case hd => rfl); (case hg => rfl); (case hr => first | (go_simp; done) | (go_simp; rfl)); intro gb241 hg w10 hbox hb; have n0_ := Q9a.mk (bP (by repeat (first | (with_reducible first | exact HB.out | apply bA | apply bN | apply bD) | exact HB.out)) hb); have n1_ := Q9a.mk (hbox); have n2_ := Q9a.mk ((by rw [hg]; exact (bZ (by repeat (first | (with_reducible first | exact HB.out | apply bA | apply bN | apply bD) | exact HB.out))) : w.heap.size ≤ gb241)); have n3_ := Q9a.mk ((by rw [hg]; exact (bZ (by repeat (first | (with_reducible first | exact HB.out | apply bA | apply bN | apply bD) | exact HB.out))) : w.heap.size ≤ gb241)); clear HB; have HB := n0_; have BK241 := n1_; have GW241 := n2_; have GE241 := n3_; clear n0_ n1_ n2_ n3_; clear hb hbox hg))
  go_ret
  exact ⟨by first | rfl | (simp [eN, eS] <;> rfl) | (simp [*, eN, eS] <;> rfl), by repeat (first | (with_reducible first | exact HB.out | apply bA | apply bN | apply bD | refine bS ?_ GE241.out) | exact HB.out)⟩
def r7In.f (k : Nat) (a0_0 : Int) (a0_1 : Int) (l0_2 : List Int) (a1 : Int) (a2 : Int) : Option (Bool) := (r7Frobenius.f k a0_0 a0_1 l0_2 a1 a2).bind fun t243 => ((r4In.f k a0_0 a0_1 l0_2 a1).bind fun t244 => (some (t243 == t244)))
def r7Subfield.l0 : Nat → Int → List Int → Int → Int → Int → List Int → Option (List Int)
 | 0, _, _, _, _, _, _ => none
 | k + 1, x1, x5, x6, x246000, x246001, x246002 => (r4Order.f k x246000 x246001 x246002).bind fun t246 => (if x6 < t246 then ((r7In.f k x246000 x246001 x246002 x6 x1).bind fun t247 => (if t247 = true then (if x5.length < 17592186044416 then (r7Subfield.l0 k x1 (x5 ++ [x6]) (wrap64 (x6 + 1)) x246000 x246001 x246002) else (none)) else (r7Subfield.l0 k x1 x5 (wrap64 (x6 + 1)) x246000 x246001 x246002))) else (some x5))
def r7Subfield.f (k : Nat) (a0_0 : Int) (a0_1 : Int) (l0_2 : List Int) (a1 : Int) : Option (List Int) := r7Subfield.l0 k a1 ([] : List Int) 0 a0_0 a0_1 l0_2
end
end Go.Proofs.Ytoambdpchjeklaa.P
end
-- Pa8
section
namespace Go.Proofs.Ytoambdpchjeklaa.P
noncomputable section
open Go.RowKit Go.Proofs.Ytoambdpchjeklaa.Hand Go.Proofs.YtoambdpchjeklaaW.PrintWords Go.Proofs.YtoambdpchjeklaaW.PrintLast Go.Proofs.YtoambdpchjeklaaW.PrintMore
set_option linter.unusedVariables false
set_option linter.unusedSimpArgs false
def r4Inv.l0 : Nat → Int → Int → Int → Int → List Int → Option (Int)
 | 0, _, _, _, _, _ => none
 | k + 1, x1, x5, x253000, x253001, x253002 => (r4Order.f k x253000 x253001 x253002).bind fun t253 => (if x5 < t253 then ((r4Mul.f k x253000 x253001 x253002 x1 x5).bind fun t254 => (if t254 = 1 then (some x5) else (r4Inv.l0 k x1 (wrap64 (x5 + 1)) x253000 x253001 x253002))) else (some 0))
def r4Inv.f (k : Nat) (a0_0 : Int) (a0_1 : Int) (l0_2 : List Int) (a1 : Int) : Option (Int) := r4Inv.l0 k a1 1 a0_0 a0_1 l0_2
set_option maxHeartbeats 8000000 in
set_option maxRecDepth 100000 in
theorem r4Inv.calls (k : Nat) (a0_0 : Int) (a0_1 : Int) (A0_2 : Option Addr) (c0_2 : Nat) (l0_2 : List Int) (a1 : Int) (r : Int) (w : World) (hr0_2 : Kd.C (Kd.int .i64) w A0_2 l0_2.length l0_2) (hc0_2 : l0_2.length ≤ c0_2) (h : r4Inv.f k a0_0 a0_1 l0_2 a1 = some r) :
  Calls Try.prog 26 #[.agg #[.int .i64 a0_0, .int .i64 a0_1, .slice A0_2 l0_2.length c0_2], .int .i64 a1] w fun e w' => e = .returned (.int .i64 r) ∧ Below w.heap.size w w' := by
 have hu24 := Try.underlying24
 have HR0_2 := Q9a.mk hr0_2
 have HC0_2 := Q9a.mk hc0_2
 clear hr0_2 hc0_2
 have HB := Q9a.mk (Below.refl w.heap.size w)
 have H : (r4Inv.l0 k a1 1 a0_0 a0_1 l0_2) = some r := h
 clear h
 have H' := Q9a.mk H
 clear H
 go_enter Try.func26, Try.ntmps26
 go_wp2_with (first | ((with_reducible refine gate_dst (N := 2) rfl ?_); refine box_event ?hg (N := 2) ?hd (cs := #[.int .i64 a0_0, .int .i64 a0_1, .slice A0_2 l0_2.length c0_2]) (t := 24) ?hr ?_; (case hd => rfl); (case hg => rfl); (case hr => first | (go_simp; done) | (go_simp; rfl)); intro gb252 hg w3 hbox hb; have n0_ := Q9a.mk (bP (by repeat (first | (with_reducible first | exact HB.out | apply bA | apply bN | apply bD) | exact HB.out)) hb); have n1_ := Q9a.mk (hbox); have n2_ := Q9a.mk ((by rw [hg]; exact (bZ (by repeat (first | (with_reducible first | exact HB.out | apply bA | apply bN | apply bD) | exact HB.out))) : w.heap.size ≤ gb252)); have n3_ := Q9a.mk ((by rw [hg]; exact (bZ (by repeat (first | (with_reducible first | exact HB.out | apply bA | apply bN | apply bD) | exact HB.out))) : w.heap.size ≤ gb252)); clear HB; have HB := n0_; have BK252 := n1_; have GW252 := n2_; have GE252 := n3_; clear n0_ n1_ n2_ n3_; clear hb hbox hg))
 go_loopg [5] k (fun kq v5 w' => ∃ (x5_1 : Int), v5 = .int .i64 x5_1 ∧ Q9a (r4Inv.l0 kq a1 x5_1 a0_0 a0_1 l0_2 = some r) ∧ Q9a (kq ≤ k) ∧ Q9a (w'.heap[gb252]? = some (.cells #[.int .i64 a0_0, .int .i64 a0_1, (.slice A0_2 l0_2.length c0_2)] 24 (0, 0))) ∧ Q9a (Below w.heap.size w w'))
 case atStart => exact ⟨(1), (by first | rfl | (simp; done) | (simp [*]; done)), H', ⟨Nat.le_refl _⟩, ⟨by (with_reducible repeat (first | refine kN ?_ _ | refine kD ?_ | refine kA ?_ _)); exact BK252.out⟩, ⟨by repeat (first | (with_reducible first | exact HB.out | apply bA | apply bN | apply bD | refine bS ?_ GE252.out) | exact HB.out)⟩⟩
 case round =>
  clear H'
  try clear c2
  try clear p2
  obtain ⟨x5_1, rfl, HA, HK1, BK252, HB⟩ := hrel
  cases gk with
  | zero => exact absurd HA.out (by simp [r4Inv.l0])
  | succ k1 =>
   have H := HA.out
   clear HA
   simp only [r4Inv.l0] at H
   replace H := Option.bind_eq_some_iff.mp H
   obtain ⟨t253, A40, H⟩ := H
   replace H : (if x5_1 < t253 then ((r4Mul.f k1 a0_0 a0_1 l0_2 a1 x5_1).bind fun t254 => (if t254 = 1 then (some x5_1) else (r4Inv.l0 k1 a1 (wrap64 (x5_1 + 1)) a0_0 a0_1 l0_2))) else (some 0)) = some r := H
   have A4 := Q9a.mk A40
   clear A40
   by_cases c5 : x5_1 < t253
   ·rw [if_pos c5] at H
    have c5b0 : decide (x5_1 < t253) = true := decide_eq_true c5
    clear c5
    replace H := Option.bind_eq_some_iff.mp H
    obtain ⟨t254, A60, H⟩ := H
    replace H : (if t254 = 1 then (some x5_1) else (r4Inv.l0 k1 a1 (wrap64 (x5_1 + 1)) a0_0 a0_1 l0_2)) = some r := H
    have A6 := Q9a.mk A60
    clear A60
    by_cases c7 : t254 = 1
    ·rw [if_pos c7] at H
     have c7b0 : (t254 == 1) = true := beq_iff_eq.mpr c7
     have c7b1 : (t254 != 1) = false := bne_eq_false_iff_eq.mpr c7
     clear c7
     obtain rfl := Option.some.inj H
     have hcz8_0 : wr.cell? ⟨gb252, 0, none⟩ = some (.int .i64 a0_0) := (kC BK252.out 0).trans rfl
     have hcz8_1 : wr.cell? ⟨gb252, 1, none⟩ = some (.int .i64 a0_1) := (kC BK252.out 1).trans rfl
     have hcz8_2 : wr.cell? ⟨gb252, 2, none⟩ = some (.slice A0_2 l0_2.length c0_2) := (kC BK252.out 2).trans rfl
     have hfz8_0 := kF BK252.out 0
     have hfz8_1 := kF BK252.out 1
     have hfz8_2 := kF BK252.out 2
     go_wp2_with (first | ((with_reducible refine gate_callee (f := 24) rfl ?_); refine goesL_ (some 8) rfl rfl Try.func24 (by kernel_rfl) rfl #[.agg #[.int .i64 a0_0, .int .i64 a0_1, .slice A0_2 l0_2.length c0_2]] rfl (by (try simp only [List.map_toArray, List.map_cons, List.map_nil]); first | done | rfl | (simp only [List.length_drop, List.length_take]; rfl)) ?_; (with_reducible refine (r4Order.calls k1 a0_0 a0_1 _ _ l0_2 t253 _ ?side1 ?side2 A4.out).mono ?_); (case side1 => repeat (first | exact (Kd.C_below HR0_2.out HB.out) | (with_reducible refine Kd.C_alloc ?_ _) | (with_reducible refine Kd.C_drewN ?_ _) | (with_reducible refine Kd.C_drew ?_))); (case side2 => exact HC0_2.out); rintro e w9 ⟨rfl, hb⟩; refine ⟨_, rfl, ?_⟩; have n0_ := Q9a.mk (kB (g := gb252) (o := .cells #[.int .i64 a0_0, .int .i64 a0_1, .slice A0_2 l0_2.length c0_2] 24 (0, 0)) (by (with_reducible repeat (first | refine kN ?_ _ | refine kD ?_ | refine kA ?_ _)); exact BK252.out) hb); have n1_ := Q9a.mk (bP (by repeat (first | (with_reducible first | exact HB.out | apply bA | apply bN | apply bD | refine bS ?_ GE252.out) | exact HB.out)) hb); clear BK252; clear HB; have BK252 := n0_; have HB := n1_; clear n0_ n1_; (try clear hb); (try clear hb2); (try clear hk); (try clear hi); have hcz10_0 : w9.cell? ⟨gb252, 0, none⟩ = some (.int .i64 a0_0) := (kC BK252.out 0).trans rfl; have hcz10_1 : w9.cell? ⟨gb252, 1, none⟩ = some (.int .i64 a0_1) := (kC BK252.out 1).trans rfl; have hcz10_2 : w9.cell? ⟨gb252, 2, none⟩ = some (.slice A0_2 l0_2.length c0_2) := (kC BK252.out 2).trans rfl; have hfz10_0 := kF BK252.out 0; have hfz10_1 := kF BK252.out 1; have hfz10_2 := kF BK252.out 2) | ((with_reducible refine gate_callee (f := 18) rfl ?_); refine goesL_ (some 15) rfl rfl Try.func18 (by kernel_rfl) rfl #[.agg #[.int .i64 a0_0, .int .i64 a0_1, .slice A0_2 l0_2.length c0_2], .int .i64 a1, .int .i64 x5_1] rfl (by (try simp only [List.map_toArray, List.map_cons, List.map_nil]); first | done | rfl | (simp only [List.length_drop, List.length_take]; rfl)) ?_; (with_reducible refine (r4Mul.calls k1 a0_0 a0_1 _ _ l0_2 a1 x5_1 t254 _ ?side1 ?side2 A6.out).mono ?_); (case side1 => repeat (first | exact (Kd.C_below HR0_2.out HB.out) | (with_reducible refine Kd.C_alloc ?_ _) | (with_reducible refine Kd.C_drewN ?_ _) | (with_reducible refine Kd.C_drew ?_))); (case side2 => exact HC0_2.out); rintro e w11 ⟨rfl, hb⟩; refine ⟨_, rfl, ?_⟩; have n0_ := Q9a.mk (kB (g := gb252) (o := .cells #[.int .i64 a0_0, .int .i64 a0_1, .slice A0_2 l0_2.length c0_2] 24 (0, 0)) (by (with_reducible repeat (first | refine kN ?_ _ | refine kD ?_ | refine kA ?_ _)); exact BK252.out) hb); have n1_ := Q9a.mk (bP (by repeat (first | (with_reducible first | exact HB.out | apply bA | apply bN | apply bD | refine bS ?_ GE252.out) | exact HB.out)) hb); clear BK252; clear HB; have BK252 := n0_; have HB := n1_; clear n0_ n1_; (try clear hb); (try clear hb2); (try clear hk); (try clear hi)))
     go_ret
     exact ⟨by first | rfl | (simp [eN, eS] <;> rfl) | (simp [*, eN, eS] <;> rfl), by repeat (first | (with_reducible first | exact HB.out | apply bA | apply bN | apply bD | refine bS ?_ GE252.out) | exact HB.out)⟩
    ·rw [if_neg c7] at H
     have c7b0 : (t254 == 1) = false := beq_eq_false_iff_ne.mpr c7
     have c7b1 : (t254 != 1) = true := bne_iff_ne.mpr c7
     have H' := Q9a.mk H
     clear H
     have hcz12_0 : wr.cell? ⟨gb252, 0, none⟩ = some (.int .i64 a0_0) := (kC BK252.out 0).trans rfl
     have hcz12_1 : wr.cell? ⟨gb252, 1, none⟩ = some (.int .i64 a0_1) := (kC BK252.out 1).trans rfl
     have hcz12_2 : wr.cell? ⟨gb252, 2, none⟩ = some (.slice A0_2 l0_2.length c0_2) := (kC BK252.out 2).trans rfl
     have hfz12_0 := kF BK252.out 0
     have hfz12_1 := kF BK252.out 1
     have hfz12_2 := kF BK252.out 2
     go_wp2_with (first | ((with_reducible refine gate_callee (f := 24) rfl ?_); refine goesL_ (some 8) rfl rfl Try.func24 (by kernel_rfl) rfl #[.agg #[.int .i64 a0_0, .int .i64 a0_1, .slice A0_2 l0_2.length c0_2]] rfl (by (try simp only [List.map_toArray, List.map_cons, List.map_nil]); first | done | rfl | (simp only [List.length_drop, List.length_take]; rfl)) ?_; (with_reducible refine (r4Order.calls k1 a0_0 a0_1 _ _ l0_2 t253 _ ?side1 ?side2 A4.out).mono ?_); (case side1 => repeat (first | exact (Kd.C_below HR0_2.out HB.out) | (with_reducible refine Kd.C_alloc ?_ _) | (with_reducible refine Kd.C_drewN ?_ _) | (with_reducible refine Kd.C_drew ?_))); (case side2 => exact HC0_2.out); rintro e w13 ⟨rfl, hb⟩; refine ⟨_, rfl, ?_⟩; have n0_ := Q9a.mk (kB (g := gb252) (o := .cells #[.int .i64 a0_0, .int .i64 a0_1, .slice A0_2 l0_2.length c0_2] 24 (0, 0)) (by (with_reducible repeat (first | refine kN ?_ _ | refine kD ?_ | refine kA ?_ _)); exact BK252.out) hb); have n1_ := Q9a.mk (bP (by repeat (first | (with_reducible first | exact HB.out | apply bA | apply bN | apply bD | refine bS ?_ GE252.out) | exact HB.out)) hb); clear BK252; clear HB; have BK252 := n0_; have HB := n1_; clear n0_ n1_; (try clear hb); (try clear hb2); (try clear hk); (try clear hi); have hcz14_0 : w13.cell? ⟨gb252, 0, none⟩ = some (.int .i64 a0_0) := (kC BK252.out 0).trans rfl; have hcz14_1 : w13.cell? ⟨gb252, 1, none⟩ = some (.int .i64 a0_1) := (kC BK252.out 1).trans rfl; have hcz14_2 : w13.cell? ⟨gb252, 2, none⟩ = some (.slice A0_2 l0_2.length c0_2) := (kC BK252.out 2).trans rfl; have hfz14_0 := kF BK252.out 0; have hfz14_1 := kF BK252.out 1; have hfz14_2 := kF BK252.out 2) | ((with_reducible refine gate_callee (f := 18) rfl ?_); refine goesL_ (some 15) rfl rfl Try.func18 (by kernel_rfl) rfl #[.agg #[.int .i64 a0_0, .int .i64 a0_1, .slice A0_2 l0_2.length c0_2], .int .i64 a1, .int .i64 x5_1] rfl (by (try simp only [List.map_toArray, List.map_cons, List.map_nil]); first | done | rfl | (simp only [List.length_drop, List.length_take]; rfl)) ?_; (with_reducible refine (r4Mul.calls k1 a0_0 a0_1 _ _ l0_2 a1 x5_1 t254 _ ?side1 ?side2 A6.out).mono ?_); (case side1 => repeat (first | exact (Kd.C_below HR0_2.out HB.out) | (with_reducible refine Kd.C_alloc ?_ _) | (with_reducible refine Kd.C_drewN ?_ _) | (with_reducible refine Kd.C_drew ?_))); (case side2 => exact HC0_2.out); rintro e w15 ⟨rfl, hb⟩; refine ⟨_, rfl, ?_⟩; have n0_ := Q9a.mk (kB (g := gb252) (o := .cells #[.int .i64 a0_0, .int .i64 a0_1, .slice A0_2 l0_2.length c0_2] 24 (0, 0)) (by (with_reducible repeat (first | refine kN ?_ _ | refine kD ?_ | refine kA ?_ _)); exact BK252.out) hb); have n1_ := Q9a.mk (bP (by repeat (first | (with_reducible first | exact HB.out | apply bA | apply bN | apply bD | refine bS ?_ GE252.out) | exact HB.out)) hb); clear BK252; clear HB; have BK252 := n0_; have HB := n1_; clear n0_ n1_; (try clear hb); (try clear hb2); (try clear hk); (try clear hi)))
     go_roundg k1
     case measure => have := HK1.out; omega
     case rel => exact ⟨(wrap64 (x5_1 + 1)), (by first | rfl | (simp; done) | (simp [*]; done)), H', ⟨by have := HK1.out; omega⟩, ⟨by (with_reducible repeat (first | refine kN ?_ _ | refine kD ?_ | refine kA ?_ _)); exact BK252.out⟩, ⟨by repeat (first | (with_reducible first | exact HB.out | apply bA | apply bN | apply bD | refine bS ?_ GE252.out) | exact HB.out)⟩⟩
   ·rw [if_neg c5] at H
    have c5b0 : decide (x5_1 < t253) = false := decide_eq_false c5
    clear c5
    obtain rfl := Option.some.inj H
    have hcz16_0 : wr.cell? ⟨gb252, 0, none⟩ = some (.int .i64 a0_0) := (kC BK252.out 0).trans rfl
    have hcz16_1 : wr.cell? ⟨gb252, 1, none⟩ = some (.int .i64 a0_1) := (kC BK252.out 1).trans rfl
    have hcz16_2 : wr.cell? ⟨gb252, 2, none⟩ = some (.slice A0_2 l0_2.length c0_2) := (kC BK252.out 2).trans rfl
    have hfz16_0 := kF BK252.out 0
    have hfz16_1 := kF BK252.out 1
    have hfz16_2 := kF BK252.out 2
    go_wp2_with (first | ((with_reducible refine gate_callee (f := 24) rfl ?_); refine goesL_ (some 8) rfl rfl Try.func24 (by kernel_rfl) rfl #[.agg #[.int .i64 a0_0, .int .i64 a0_1, .slice A0_2 l0_2.length c0_2]] rfl (by (try simp only [List.map_toArray, List.map_cons, List.map_nil]); first | done | rfl | (simp only [List.length_drop, List.length_take]; rfl)) ?_; (with_reducible refine (r4Order.calls k1 a0_0 a0_1 _ _ l0_2 t253 _ ?side1 ?side2 A4.out).mono ?_); (case side1 => repeat (first | exact (Kd.C_below HR0_2.out HB.out) | (with_reducible refine Kd.C_alloc ?_ _) | (with_reducible refine Kd.C_drewN ?_ _) | (with_reducible refine Kd.C_drew ?_))); (case side2 => exact HC0_2.out); rintro e w17 ⟨rfl, hb⟩; refine ⟨_, rfl, ?_⟩; have n0_ := Q9a.mk (kB (g := gb252) (o := .cells #[.int .i64 a0_0, .int .i64 a0_1, .slice A0_2 l0_2.length c0_2] 24 (0, 0)) (by (with_reducible repeat (first | refine kN ?_ _ | refine kD ?_ | refine kA ?_ _)); exact BK252.out) hb); have n1_ := Q9a.mk (bP (by repeat (first | (with_reducible first | exact HB.out | apply bA | apply bN | apply bD | refine bS ?_ GE252.out) | exact HB.out)) hb); clear BK252; clear HB; have BK252 := n0_; have HB := n1_; clear n0_ n1_; (try clear hb); (try clear hb2); (try clear hk); (try clear hi)))
    go_ret
    exact ⟨by first | rfl | (simp [eN, eS] <;> rfl) | (simp [*, eN, eS] <;> rfl), by repeat (first | (with_reducible first | exact HB.out | apply bA | apply bN | apply bD | refine bS ?_ GE252.out) | exact HB.out)⟩
def r4Neg.l0 : Nat → List Int → Int → Int → Int → List Int → Option (Int)
 | 0, _, _, _, _, _ => none
 | k + 1, x5, x6, x256000, x256001, x256002 => if x6 < (x5.length : Int) then (if 0 ≤ x6 then (if x256000 = 0 then (none) else (r4Neg.l0 k (x5.set (x6 : Int).toNat (Int.tmod (wrap64 (x256000 - (rd x5 x6))) x256000)) (wrap64 (x6 + 1)) x256000 x256001 x256002)) else (none)) else ((r4Value.f k x256000 x256001 x256002 x5).bind fun t261 => (some t261))
def r4Neg.f (k : Nat) (a0_0 : Int) (a0_1 : Int) (l0_2 : List Int) (a1 : Int) : Option (Int) := (r4Digits.f k a0_0 a0_1 l0_2 a1).bind fun t256 => (r4Neg.l0 k t256 0 a0_0 a0_1 l0_2)
def r4Neg.T5 : Bool × List (List Nat × List Nat) := (true, [([], []), ([], []), ([], []), ([2], [2]), ([], []), ([], []), ([4, 5], [4, 5]), ([6], [6]), ([3, 7], [3, 7]), ([], []), ([9], [9]), ([8, 10], [8, 10]), ([0, 1, 0, 1, 2, 3, 4, 5, 6, 7, 8, 9, 10, 11], [0, 1]), ([12, 11, 0, 1, 2, 3, 4, 5, 6, 7, 8, 9, 10, 11], [11, 12])])
def r4Neg.B5 : List Nat := [0, 0, 0, 4, 0, 0, 48, 112, 252, 0, 512, 2044, 4095, 8191]
theorem r4Neg.tab5 : rtab .any (opsOf Try.f27 5) = r4Neg.T5 := by kernel_rfl
theorem r4Neg.bits5 : waitsOk r4Neg.T5.2 r4Neg.B5 = true := by kernel_rfl
set_option maxHeartbeats 8000000 in
set_option maxRecDepth 100000 in
theorem r4Neg.calls (k : Nat) (a0_0 : Int) (a0_1 : Int) (A0_2 : Option Addr) (c0_2 : Nat) (l0_2 : List Int) (a1 : Int) (r : Int) (w : World) (hr0_2 : Kd.C (Kd.int .i64) w A0_2 l0_2.length l0_2) (hc0_2 : l0_2.length ≤ c0_2) (h : r4Neg.f k a0_0 a0_1 l0_2 a1 = some r) :
  Calls Try.prog 27 #[.agg #[.int .i64 a0_0, .int .i64 a0_1, .slice A0_2 l0_2.length c0_2], .int .i64 a1] w fun e w' => e = .returned (.int .i64 r) ∧ Below w.heap.size w w' := by
 have hu24 := Try.underlying24
 have HR0_2 := Q9a.mk hr0_2
 have HC0_2 := Q9a.mk hc0_2
 clear hr0_2 hc0_2
 have HB := Q9a.mk (Below.refl w.heap.size w)
 have H : ((r4Digits.f k a0_0 a0_1 l0_2 a1).bind fun t256 => (r4Neg.l0 k t256 0 a0_0 a0_1 l0_2)) = some r := h
 clear h
 replace H := Option.bind_eq_some_iff.mp H
 obtain ⟨t256, A30, H⟩ := H
 replace H : (r4Neg.l0 k t256 0 a0_0 a0_1 l0_2) = some r := H
 have A3 := Q9a.mk A30
 clear A30
 have H' := Q9a.mk H
 clear H
 go_enter Try.func27, Try.ntmps27
 go_wp2_with (first | ((with_reducible refine gate_dst (N := 2) rfl ?_); refine box_event ?hg (N := 2) ?hd (cs := #[.int .i64 a0_0, .int .i64 a0_1, .slice A0_2 l0_2.length c0_2]) (t := 24) ?hr ?_; (case hd => rfl); (case hg => rfl); (case hr => first | (go_simp; done) | (go_simp; rfl)); intro gb255 hg w4 hbox hb; have n0_ := Q9a.mk (bP (by repeat (first | (with_reducible first | exact HB.out | apply bA | apply bN | apply bD) | exact HB.out)) hb); have n1_ := Q9a.mk (hbox); have n2_ := Q9a.mk ((by rw [hg]; exact (bZ (by repeat (first | (with_reducible first | exact HB.out | apply bA | apply bN | apply bD) | exact HB.out))) : w.heap.size ≤ gb255)); have n3_ := Q9a.mk ((by rw [hg]; exact (bZ (by repeat (first | (with_reducible first | exact HB.out | apply bA | apply bN | apply bD) | exact HB.out))) : w.heap.size ≤ gb255)); clear HB; have HB := n0_; have BK255 := n1_; have GW255 := n2_; have GE255 := n3_; clear n0_ n1_ n2_ n3_; clear hb hbox hg; have hcz5_0 : w4.cell? ⟨gb255, 0, none⟩ = some (.int .i64 a0_0) := (kC BK255.out 0).trans rfl; have hcz5_1 : w4.cell? ⟨gb255, 1, none⟩ = some (.int .i64 a0_1) := (kC BK255.out 1).trans rfl; have hcz5_2 : w4.cell? ⟨gb255, 2, none⟩ = some (.slice A0_2 l0_2.length c0_2) := (kC BK255.out 2).trans rfl; have hfz5_0 := kF BK255.out 0; have hfz5_1 := kF BK255.out 1; have hfz5_2 := kF BK255.out 2) | ((with_reducible refine gate_callee (f := 43) rfl ?_); refine goesL_ (some 9) rfl rfl Try.func43 (by kernel_rfl) rfl #[.agg #[.int .i64 a0_0, .int .i64 a0_1, .slice A0_2 l0_2.length c0_2], .int .i64 a1] rfl (by (try simp only [List.map_toArray, List.map_cons, List.map_nil]); first | done | rfl | (simp only [List.length_drop, List.length_take]; rfl)) ?_; (with_reducible refine (r4Digits.calls k a0_0 a0_1 _ _ l0_2 a1 t256 _ ?side1 ?side2 A3.out).mono ?_); (case side1 => repeat (first | exact (Kd.C_below HR0_2.out HB.out) | (with_reducible refine Kd.C_alloc ?_ _) | (with_reducible refine Kd.C_drewN ?_ _) | (with_reducible refine Kd.C_drew ?_))); (case side2 => exact HC0_2.out); rintro e w6 ⟨v257, rfl, ho0, hb⟩; refine ⟨_, rfl, ?_⟩; have n0_ := Q9a.mk (Kd.R_lower ho0 (bZ (by repeat (first | (with_reducible first | exact HB.out | apply bA | apply bN | apply bD | refine bS ?_ GE255.out) | exact HB.out)))); have n1_ := Q9a.mk (kB (g := gb255) (o := .cells #[.int .i64 a0_0, .int .i64 a0_1, .slice A0_2 l0_2.length c0_2] 24 (0, 0)) (by (with_reducible repeat (first | refine kN ?_ _ | refine kD ?_ | refine kA ?_ _)); exact BK255.out) hb); have n2_ := Q9a.mk (bP (by repeat (first | (with_reducible first | exact HB.out | apply bA | apply bN | apply bD | refine bS ?_ GE255.out) | exact HB.out)) hb); clear BK255; clear HB; have HO258 := n0_; have BK255 := n1_; have HB := n2_; clear n0_ n1_ n2_; (try clear hb); (try clear hb2); (try clear hk); (try clear hi); (try clear ho0)))
 go_loopg [6] k (fun kq v6 w' => ∃ (x5_1 : List Int) (x6_1 : Int), v6 = .int .i64 x6_1 ∧ Q9a (r4Neg.l0 kq x5_1 x6_1 a0_0 a0_1 l0_2 = some r) ∧ Q9a (kq ≤ k) ∧ Q9a (Kd.R (Kd.int .i64) 3 w' w.heap.size (fun _ => True) v257 x5_1) ∧ Q9a (w'.heap[gb255]? = some (.cells #[.int .i64 a0_0, .int .i64 a0_1, (.slice A0_2 l0_2.length c0_2)] 24 (0, 0))) ∧ Q9a (Below w.heap.size w w'))
 case atStart => exact ⟨(t256), (0), (by first | rfl | (simp; done) | (simp [*]; done)), H', ⟨Nat.le_refl _⟩, ⟨by (with_reducible repeat (first | apply Kd.R_alloc | apply Kd.R_drewN | apply Kd.R_drew)); exact HO258.out⟩, ⟨by (with_reducible repeat (first | refine kN ?_ _ | refine kD ?_ | refine kA ?_ _)); exact BK255.out⟩, ⟨by repeat (first | (with_reducible first | exact HB.out | apply bA | apply bN | apply bD | refine bS ?_ GE255.out) | exact HB.out)⟩⟩
 case round =>
  clear H'
  try clear c2
  try clear p2
  try clear c4
  try clear hcz5_0
  try clear hcz5_1
  try clear hcz5_2
  try clear hfz5_0
  try clear hfz5_1
  try clear hfz5_2
  obtain ⟨x5_1, x6_1, rfl, HA, HK1, HO_5, BK255, HB⟩ := hrel
  cases gk with
  | zero => exact absurd HA.out (by simp [r4Neg.l0])
  | succ k1 =>
   have H := HA.out
   clear HA
   simp only [r4Neg.l0] at H
   by_cases c7 : x6_1 < (x5_1.length : Int)
   ·rw [if_pos c7] at H
    have c7b0 : decide (x6_1 < (x5_1.length : Int)) = true := decide_eq_true c7
    clear c7
    by_cases c8 : 0 ≤ x6_1
    ·rw [if_pos c8] at H
     have c8b0 : decide (0 ≤ x6_1) = true := decide_eq_true c8
     clear c8
     by_cases c9 : a0_0 = 0
     ·rw [if_pos c9] at H
      exact absurd H (by simp)
     ·rw [if_neg c9] at H
      have c9b0 : (a0_0 == 0) = false := beq_eq_false_iff_ne.mpr c9
      have c9b1 : (a0_0 != 0) = true := bne_iff_ne.mpr c9
      obtain ⟨y260, hy260⟩ : ∃ y_ : List Int, y_ = (x5_1.set (x6_1 : Int).toNat (Int.tmod (wrap64 (a0_0 - (rd x5_1 x6_1))) a0_0)) := ⟨_, rfl⟩
      replace H : (r4Neg.l0 k1 y260 (wrap64 (x6_1 + 1)) a0_0 a0_1 l0_2) = some r := by first | (rw [hy260]; with_reducible exact H) | (have H2_ := (Option.bind_some _ _).symm.trans H; rw [hy260]; with_reducible exact H2_) | (have H2_ := (Option.bind_some _ _).symm.trans H; with_reducible exact H2_) | with_reducible exact H | (rw [hy260]; exact H) | exact H
      have Ny260 := Q9a.mk hy260
      clear hy260
      have H' := Q9a.mk H
      clear H
      obtain ⟨Ao11, co11, eo11⟩ := Kd.R_slice HO_5.out
      subst eo11
      try go_wp2
      have n0_ := Q9a.mk (Kd.R_drew HO_5.out)
      have n1_ := Q9a.mk (kD BK255.out)
      have n2_ := Q9a.mk (bD HB.out)
      clear HO_5
      clear BK255
      clear HB
      have HO_5 := n0_
      have BK255 := n1_
      have HB := n2_
      clear n0_ n1_ n2_
      have p259 : 0 ≤ (x6_1 : Int) := of_decide_eq_true (by first | (with_reducible assumption) | assumption)
      have q259 : x6_1 < (x5_1.length : Int) := of_decide_eq_true (by first | (with_reducible assumption) | assumption)
      obtain ⟨ad259, e259, hx259_0⟩ := Kd.at_int (Kd.R_reads' HO_5.out).2.2 x6_1 p259 q259
      cases e259
      replace p259 := eq_true p259
      replace q259 := eq_true q259
      have p10 : 0 ≤ (x6_1 : Int) := of_decide_eq_true (by first | (with_reducible assumption) | assumption)
      have q10 : (x6_1 : Int) < ((x5_1.length : Int) : Int) := of_decide_eq_true (by first | (with_reducible assumption) | assumption)
      obtain ⟨go10, co10, eo10, gb10, gl10, cl10, HG10⟩ := Kd.R_form HO_5.out (by omega)
      (first | cases eo10 | (injection eo10 with ea_ en_ ec_; (first | subst ea_ | (injection ea_ with ea_; subst ea_)); subst ec_; clear en_))
      have GB10 := Q9a.mk gb10
      have GG10 := Q9a.mk HG10
      clear gb10 gl10 HG10
      (first | simp only [add_plain] at hx259_0 | skip)
      obtain ⟨hx10_0, hf10_0⟩ := Kd.R_celln 0 HO_5.out (x6_1 : Int) p10 q10
      replace p10 := eq_true p10
      replace q10 := eq_true q10
      have HP13 := Kd.R_putn HO_5.out (x6_1 : Int) (Int.tmod (wrap64 (a0_0 - (rd x5_1 x6_1))) a0_0)
      rw [← Ny260.out] at HP13
      have HQ13 := Q9a.mk HP13
      clear HP13
      refine start_ (n := 14) (S := fun w' => w'.cell? ⟨gb255, 0, none⟩ = some (.int .i64 a0_0) ∧ w'.cell? ⟨gb255, 1, none⟩ = some (.int .i64 a0_1) ∧ w'.cell? ⟨gb255, 2, none⟩ = some (.slice A0_2 l0_2.length c0_2) ∧ w'.cell? ⟨go10, (x6_1).toNat, none⟩ = some (.int .i64 (rd x5_1 x6_1))) (ds := [13]) #[false, false, false, false, false, false, false, false, false, false, false, false, false, false] (by kernel_rfl) rfl rfl ⟨(kC BK255.out 0).trans rfl, (kC BK255.out 1).trans rfl, (kC BK255.out 2).trans rfl, hx259_0⟩ (fun hHeld => ?_); refine with_tabW r4Neg.tab5 r4Neg.bits5 (fun HT_ HW_ => ?_)
      generalize wr.drew = w12 at HO_5 BK255 HB GG10 HQ13 hf10_0 hx10_0 hx259_0 hHeld ⊢
      refine pure_ (i := 0) (N := some 16) (v := ?_) (a' := ?_) #[true, false, false, false, false, false, false, false, false, false, false, false, false, false] rfl rfl (any_of HT_.out (by kernel_rfl)) (fun _ _ _ h => h) (Or.inl ⟨by rfl, ?_⟩) ?_ ?_
      rotate_left
      ·intro w'
       go_simp
       with_reducible rfl
      rotate_left
      ·simp only [Act.put, sz1, sz2, sz3, i64_w, i32_w]
       rfl
      refine pure_ (i := 1) (N := some 17) (v := ?_) (a' := ?_) #[true, true, false, false, false, false, false, false, false, false, false, false, false, false] rfl rfl (any_of HT_.out (by kernel_rfl)) (fun _ _ _ h => h) (Or.inl ⟨by rfl, ?_⟩) ?_ ?_
      rotate_left
      ·intro w'
       go_simp
       with_reducible rfl
      rotate_left
      ·simp only [Act.put, sz1, sz2, sz3, i64_w, i32_w]
       rfl
      refine pure_ (i := 2) (N := some 18) (v := ?_) (a' := ?_) #[true, true, true, false, false, false, false, false, false, false, false, false, false, false] rfl rfl (any_of HT_.out (by kernel_rfl)) (fun _ _ _ h => h) (Or.inl ⟨by rfl, ?_⟩) ?_ ?_
      rotate_left
      ·intro w'
       go_simp
       with_reducible rfl
      rotate_left
      ·simp only [Act.put, sz1, sz2, sz3, i64_w, i32_w]
       rfl
      refine pure_ (i := 4) (N := some 20) (v := ?_) (a' := ?_) #[true, true, true, false, true, false, false, false, false, false, false, false, false, false] rfl rfl (any_of HT_.out (by kernel_rfl)) (fun _ _ _ h => h) (Or.inl ⟨by rfl, ?_⟩) ?_ ?_
      rotate_left
      ·intro w'
       go_simp
       with_reducible rfl
      rotate_left
      ·simp only [Act.put, sz1, sz2, sz3, i64_w, i32_w]
       rfl
      refine pure_ (i := 5) (N := some 21) (v := ?_) (a' := ?_) #[true, true, true, false, true, true, false, false, false, false, false, false, false, false] rfl rfl (any_of HT_.out (by kernel_rfl)) (fun _ _ _ h => h) (Or.inl ⟨by rfl, ?_⟩) ?_ ?_
      rotate_left
      ·intro w'
       go_simp
       with_reducible rfl
      rotate_left
      ·simp only [Act.put, sz1, sz2, sz3, i64_w, i32_w]
       rfl
      refine pure_ (i := 6) (N := some 22) (v := ?_) (a' := ?_) #[true, true, true, false, true, true, true, false, false, false, false, false, false, false] rfl rfl (any_of HT_.out (by kernel_rfl)) (fun _ _ _ h => h) (Or.inl ⟨by rfl, ?_⟩) ?_ ?_
      rotate_left
      ·intro w'
       go_simp
       with_reducible rfl
      rotate_left
      ·simp only [Act.put, sz1, sz2, sz3, i64_w, i32_w]
       rfl
      refine pure_ (i := 9) (N := some 25) (v := ?_) (a' := ?_) #[true, true, true, false, true, true, true, false, false, true, false, false, false, false] rfl rfl (any_of HT_.out (by kernel_rfl)) (fun _ _ _ h => h) (Or.inl ⟨by rfl, ?_⟩) ?_ ?_
      rotate_left
      ·intro w'
       go_simp
       with_reducible rfl
      rotate_left
      ·simp only [Act.put, sz1, sz2, sz3, i64_w, i32_w]
       rfl
      refine take_ (i := 3) (N := some 19) (v := ?_) (a' := ?_) #[true, true, true, true, true, true, true, false, false, true, false, false, false, false] rfl rfl (take_ofW HT_.out HW_.out (by kernel_rfl)) (fun _ _ _ h => h) (Or.inl ⟨by rfl, ?_⟩) hHeld ?_ ?_
      rotate_left
      ·rintro w' ⟨s0, s1, s2, s3⟩
       go_simp
       with_reducible rfl
      rotate_left
      ·simp only [Act.put, sz1, sz2, sz3, i64_w, i32_w]
       rfl
      refine take_ (i := 7) (N := some 23) (v := ?_) (a' := ?_) #[true, true, true, true, true, true, true, true, false, true, false, false, false, false] rfl rfl (take_ofW HT_.out HW_.out (by kernel_rfl)) (fun _ _ _ h => h) (Or.inl ⟨by rfl, ?_⟩) hHeld ?_ ?_
      rotate_left
      ·rintro w' ⟨s0, s1, s2, s3⟩
       go_simp
       with_reducible rfl
      rotate_left
      ·simp only [Act.put, sz1, sz2, sz3, i64_w, i32_w]
       rfl
      refine pure_ (i := 8) (N := some 24) (v := ?_) (a' := ?_) #[true, true, true, true, true, true, true, true, true, true, false, false, false, false] rfl rfl (any_of HT_.out (by kernel_rfl)) (fun _ _ _ h => h) (Or.inl ⟨by rfl, ?_⟩) ?_ ?_
      rotate_left
      ·intro w'
       go_simp
       with_reducible rfl
      rotate_left
      ·simp only [Act.put, sz1, sz2, sz3, i64_w, i32_w]
       rfl
      refine take_ (i := 10) (N := some 26) (v := ?_) (a' := ?_) #[true, true, true, true, true, true, true, true, true, true, true, false, false, false] rfl rfl (take_ofW HT_.out HW_.out (by kernel_rfl)) (fun _ _ _ h => h) (Or.inl ⟨by rfl, ?_⟩) hHeld ?_ ?_
      rotate_left
      ·rintro w' ⟨s0, s1, s2, s3⟩
       go_simp
       with_reducible rfl
      rotate_left
      ·simp only [Act.put, sz1, sz2, sz3, i64_w, i32_w]
       rfl
      refine pure_ (i := 11) (N := some 27) (v := ?_) (a' := ?_) #[true, true, true, true, true, true, true, true, true, true, true, true, false, false] rfl rfl (any_of HT_.out (by kernel_rfl)) (fun _ _ _ h => h) (Or.inl ⟨by rfl, ?_⟩) ?_ ?_
      rotate_left
      ·intro w'
       go_simp
       with_reducible rfl
      rotate_left
      ·simp only [Act.put, sz1, sz2, sz3, i64_w, i32_w]
       rfl
      refine pure_ (i := 12) (N := some 28) (v := ?_) (a' := ?_) #[true, true, true, true, true, true, true, true, true, true, true, true, true, false] rfl rfl (any_of HT_.out (by kernel_rfl)) (fun _ _ _ h => h) (Or.inl ⟨by rfl, ?_⟩) ?_ ?_
      rotate_left
      ·intro w'
       go_simp
       with_reducible rfl
      rotate_left
      ·simp only [Act.put, sz1, sz2, sz3, i64_w, i32_w]
       rfl
      refine last_ (i := 13) (N := none) #[true, true, true, true, true, true, true, true, true, true, true, true, true, true] rfl rfl (one_of HT_.out (by kernel_rfl)) (by decide) (fun K hK => ?_)
      refine skip_ (w1 := ?_) (by rfl) rfl ?_ ?_
      rotate_left
      ·go_simp
       rfl
      refine hK.out _ _ ?_
      clear hK K
      refine done_ (done_of HT_.out (by kernel_rfl)) ?_
      try go_wp2
      go_roundg k1
      case measure => have := HK1.out; omega
      case rel => exact ⟨(y260), (wrap64 (x6_1 + 1)), (by first | rfl | (simp; done) | (simp [*]; done)), H', ⟨by have := HK1.out; omega⟩, ⟨by (with_reducible repeat (first | apply Kd.R_alloc | apply Kd.R_drewN | apply Kd.R_drew)); exact HQ13.out⟩, ⟨by (with_reducible repeat (first | refine kN ?_ _ | refine kD ?_ | refine kA ?_ _)); refine blk_far ?_ (by have h_ := Kd.R_ne HO_5.out BK255.out (by decide); intro e_; exact h_ (by rw [e_]; rfl)) _; (with_reducible repeat (first | refine kN ?_ _ | refine kD ?_ | refine kA ?_ _)); exact BK255.out⟩, ⟨by repeat (first | (with_reducible first | exact HB.out | apply bA | apply bN | apply bD | refine bS ?_ GB10.out | refine bS ?_ GE255.out) | exact HB.out)⟩⟩
    ·rw [if_neg c8] at H
     exact absurd H (by simp)
   ·rw [if_neg c7] at H
    have c7b0 : decide (x6_1 < (x5_1.length : Int)) = false := decide_eq_false c7
    clear c7
    replace H := Option.bind_eq_some_iff.mp H
    obtain ⟨t261, A140, H⟩ := H
    replace H : (some t261) = some r := H
    have A14 := Q9a.mk A140
    clear A140
    obtain rfl := Option.some.inj H
    obtain ⟨Ao15, co15, eo15⟩ := Kd.R_slice HO_5.out
    subst eo15
    have hcz16_0 : wr.cell? ⟨gb255, 0, none⟩ = some (.int .i64 a0_0) := (kC BK255.out 0).trans rfl
    have hcz16_1 : wr.cell? ⟨gb255, 1, none⟩ = some (.int .i64 a0_1) := (kC BK255.out 1).trans rfl
    have hcz16_2 : wr.cell? ⟨gb255, 2, none⟩ = some (.slice A0_2 l0_2.length c0_2) := (kC BK255.out 2).trans rfl
    have hfz16_0 := kF BK255.out 0
    have hfz16_1 := kF BK255.out 1
    have hfz16_2 := kF BK255.out 2
    go_wp2_with (first | ((with_reducible refine gate_callee (f := 44) rfl ?_); refine goesL_ (some 31) rfl rfl Try.func44 (by kernel_rfl) rfl #[.agg #[.int .i64 a0_0, .int .i64 a0_1, .slice A0_2 l0_2.length c0_2], .slice Ao15 x5_1.length co15] rfl (by (try simp only [List.map_toArray, List.map_cons, List.map_nil]); first | done | rfl | (simp only [List.length_drop, List.length_take]; rfl)) ?_; (with_reducible refine (r4Value.calls k1 a0_0 a0_1 _ _ l0_2 _ _ x5_1 t261 _ ?side1 ?side2 ?side3 ?side4 A14.out).mono ?_); (case side1 => repeat (first | exact (Kd.C_below HR0_2.out HB.out) | (with_reducible refine Kd.C_alloc ?_ _) | (with_reducible refine Kd.C_drewN ?_ _) | (with_reducible refine Kd.C_drew ?_))); (case side2 => exact HC0_2.out); (case side3 => repeat (first | exact (Kd.R_reads' HO_5.out).2.2 | (with_reducible refine Kd.C_alloc ?_ _) | (with_reducible refine Kd.C_drewN ?_ _) | (with_reducible refine Kd.C_drew ?_))); (case side4 => exact (Kd.R_reads' HO_5.out).2.1); rintro e w17 ⟨rfl, hb⟩; refine ⟨_, rfl, ?_⟩; have n0_ := Q9a.mk (Kd.R_below (by (with_reducible repeat (first | apply Kd.R_alloc | apply Kd.R_drewN | apply Kd.R_drew)); exact HO_5.out) hb); have n1_ := Q9a.mk (kB (g := gb255) (o := .cells #[.int .i64 a0_0, .int .i64 a0_1, .slice A0_2 l0_2.length c0_2] 24 (0, 0)) (by (with_reducible repeat (first | refine kN ?_ _ | refine kD ?_ | refine kA ?_ _)); exact BK255.out) hb); have n2_ := Q9a.mk (bP (by repeat (first | (with_reducible first | exact HB.out | apply bA | apply bN | apply bD | refine bS ?_ GE255.out) | exact HB.out)) hb); clear HO_5; clear BK255; clear HB; have HO_5 := n0_; have BK255 := n1_; have HB := n2_; clear n0_ n1_ n2_; (try clear hb); (try clear hb2); (try clear hk); (try clear hi)))
    go_ret
    exact ⟨by first | rfl | (simp [eN, eS] <;> rfl) | (simp [*, eN, eS] <;> rfl), by repeat (first | (with_reducible first | exact HB.out | apply bA | apply bN | apply bD | refine bS ?_ GE255.out) | exact HB.out)⟩
def r7Trace.l0 : Nat → Int → Int → Int → Int → Int → Int → List Int → Option (Int)
 | 0, _, _, _, _, _, _, _ => none
 | k + 1, x1, x2, x7, x8, x266000, x266001, x266002 => if x2 = 0 then (none) else (if x8 < (wrap64 (Int.tdiv x266001 x2)) then ((r7Frobenius.f k x266000 x266001 x266002 x1 (wrap64 (x2 * x8))).bind fun t266 => ((r4Add.f k x266000 x266001 x266002 x7 t266).bind fun t267 => (r7Trace.l0 k x1 x2 t267 (wrap64 (x8 + 1)) x266000 x266001 x266002))) else (some x7))
def r7Trace.f (k : Nat) (a0_0 : Int) (a0_1 : Int) (l0_2 : List Int) (a1 : Int) (a2 : Int) : Option (Int) := r7Trace.l0 k a1 a2 0 0 a0_0 a0_1 l0_2
end
end Go.Proofs.Ytoambdpchjeklaa.P
end
