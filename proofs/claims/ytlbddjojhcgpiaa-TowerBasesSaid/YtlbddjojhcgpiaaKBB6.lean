/- What towerBases_holds needs: texts Pa0, Pb0, Pa1, Pa2, Pa3, Pa4, D1, Pa5, D2, Gs0, put together. -/
import Derived.Test.YtlbddjojhcgpiaaKBB5
import Derived.Laws.StructEq
set_option linter.unusedVariables false
set_option linter.unusedSimpArgs false
set_option linter.unusedSectionVars false
set_option maxHeartbeats 8000000
set_option maxRecDepth 100000
-- Pa0
section
namespace Go.Proofs.Ytlbddjojhcgpiaa.P
noncomputable section
open Go.RowKit Go.Proofs.Ytlbddjojhcgpiaa.Hand Go.Proofs.YtlbddjojhcgpiaaW.PrintWords Go.Proofs.YtlbddjojhcgpiaaW.PrintLast Go.Proofs.YtlbddjojhcgpiaaW.PrintMore
set_option linter.unusedVariables false
set_option linter.unusedSimpArgs false
def errW : Option Int → Value
 | none => .nilIface
 | some c => .iface 0 (.int .i64 c)
theorem eN : errW none = .nilIface := rfl
theorem eS (c : Int) : errW (some c) = .iface 0 (.int .i64 c) := rfl
theorem info3 : (Try.prog.info? 3).map (fun i => (i.zero, i.size, i.bytes)) = some (some (.int .i64 0), 1, 8) := by kernel_rfl
theorem info4 : (Try.prog.info? 4).map (fun i => (i.zero, i.size, i.bytes)) = some (some (.bool false), 1, 1) := by kernel_rfl
end
end Go.Proofs.Ytlbddjojhcgpiaa.P
end
-- Pb0
section
namespace Go.Proofs.Ytlbddjojhcgpiaa.P
noncomputable section
open Go.RowKit Go.Proofs.Ytlbddjojhcgpiaa.Hand Go.Proofs.YtlbddjojhcgpiaaW.PrintWords Go.Proofs.YtlbddjojhcgpiaaW.PrintLast Go.Proofs.YtlbddjojhcgpiaaW.PrintMore
set_option linter.unusedVariables false
set_option linter.unusedSimpArgs false
theorem info22 : (Try.prog.info? 22).map (fun i => (i.zero, i.size, i.bytes)) = some (some (.slice none 0 0), 1, 24) := by kernel_rfl
def rd_L2 (xs : List (List Int)) (i : Int) : (List Int) := xs.getD i.toNat ([] : List Int)
theorem at_L2 {w : World} {A : Option Addr} {n : Nat} {xs : List (List Int)} (h : Kd.C (Kd.slice 3 (Kd.int .i64)) w A n xs) (i : Int) (h0 : 0 ≤ i) (h1 : i < n) : ∃ ad A0 c0, A = some ad ∧ w.cell? (ad.add i.toNat) = some (.slice A0 (rd_L2 xs i).length c0) ∧ (rd_L2 xs i).length ≤ c0 ∧ (Kd.int .i64).C w A0 (rd_L2 xs i).length (rd_L2 xs i) := by
 obtain ⟨ad, c, e, _, hK, hc0⟩ := Kd.C_get h ([] : List Int) i h0 h1;have hc : ∀ j u, c[j]? = some u → w.cell? (ad.add (i.toNat * 1 + j)) = some u := hc0;obtain ⟨A0, c0, rfl, l0, g0⟩ := hK;exact ⟨ad, A0, c0, e, by have hq := hc 0 _ rfl; rwa [Nat.mul_one, Nat.add_zero] at hq, l0, g0⟩
end
end Go.Proofs.Ytlbddjojhcgpiaa.P
end
-- Pa1
section
namespace Go.Proofs.Ytlbddjojhcgpiaa.P
noncomputable section
open Go.RowKit Go.Proofs.Ytlbddjojhcgpiaa.Hand Go.Proofs.YtlbddjojhcgpiaaW.PrintWords Go.Proofs.YtlbddjojhcgpiaaW.PrintLast Go.Proofs.YtlbddjojhcgpiaaW.PrintMore
set_option linter.unusedVariables false
set_option linter.unusedSimpArgs false
mutual
def r4Order.j0 : Nat → Bool → Int → Int → List Int → Option (Int)
 | 0, _, _, _, _ => none
 | k + 1, x17, x102000, x102001, x102002 => if x17 = true then (some 0) else (r4Order.l0 k 1 0 x102000 x102001 x102002)
def r4Order.l0 : Nat → Int → Int → Int → Int → List Int → Option (Int)
 | 0, _, _, _, _, _ => none
 | k + 1, x3, x4, x102000, x102001, x102002 => if x4 < x102001 then (if x102000 = 0 then (none) else (if x3 > (wrap64 (Int.tdiv 256 x102000)) then (some 0) else (r4Order.l0 k (wrap64 (x3 * x102000)) (wrap64 (x4 + 1)) x102000 x102001 x102002))) else (some x3)
end
def r4Order.f (k : Nat) (a0_0 : Int) (a0_1 : Int) (l0_2 : List Int) : Option (Int) := if a0_0 < 2 then (r4Order.j0 k true a0_0 a0_1 l0_2) else (if a0_1 < 1 then (r4Order.j0 k true a0_0 a0_1 l0_2) else (r4Order.j0 k (decide (a0_1 > 8)) a0_0 a0_1 l0_2))
theorem r4Order.calls (k : Nat) (a0_0 : Int) (a0_1 : Int) (A0_2 : Option Addr) (c0_2 : Nat) (l0_2 : List Int) (r : Int) (w : World) (hr0_2 : Kd.C (Kd.int .i64) w A0_2 l0_2.length l0_2) (hc0_2 : l0_2.length ≤ c0_2) (h : r4Order.f k a0_0 a0_1 l0_2 = some r) :
  Calls Try.prog 29 #[.agg #[.int .i64 a0_0, .int .i64 a0_1, .slice A0_2 l0_2.length c0_2]] w fun e w' => e = .returned (.int .i64 r) ∧ Below w.heap.size w w' := by
 have hu24 := Try.underlying24;have HR0_2 := Q9a.mk hr0_2;have HC0_2 := Q9a.mk hc0_2;clear hr0_2 hc0_2;have HB := Q9a.mk (Below.refl w.heap.size w);have H : (if a0_0 < 2 then (r4Order.j0 k true a0_0 a0_1 l0_2) else (if a0_1 < 1 then (r4Order.j0 k true a0_0 a0_1 l0_2) else (r4Order.j0 k (decide (a0_1 > 8)) a0_0 a0_1 l0_2))) = some r := h;clear h;have HC2 := Q9a.mk H;clear H;go_enter Try.func29, Try.ntmps29
 go_upto_region 1 with (first | ((with_reducible refine gD (N := 1) rfl ?_); refine bE ?hg (N := 1) ?hd (cs := #[.int .i64 a0_0, .int .i64 a0_1, .slice A0_2 l0_2.length c0_2]) (t := 24) ?hr ?_; (case hd => rfl); (case hg => rfl); (case hr => first | (go_simp; done) | (go_simp; rfl)); intro gb101 hg w3 hbox hb; have n0_ := Q9a.mk (bP (by repeat (first | (with_reducible first | exact HB.out | apply bA | apply bN | apply bD) | exact HB.out)) hb); have n1_ := Q9a.mk (hbox); have n2_ := Q9a.mk ((by rw [hg]; exact (bZ (by repeat (first | (with_reducible first | exact HB.out | apply bA | apply bN | apply bD) | exact HB.out))) : w.heap.size ≤ gb101)); have n3_ := n2_; clear HB; have HB := n0_; have BK101 := n1_; have GW101 := n2_; have GE101 := n3_; clear n0_ n1_ n2_ n3_; clear hb hbox hg))
 (try simp only [Act.put, sz1, sz2, sz3])
 go_cut [17] (fun v17 wc => ∃ (kq : Nat) (x17_1 : Bool), v17 = .bool x17_1 ∧ Q9a (r4Order.j0 kq x17_1 a0_0 a0_1 l0_2 = some r) ∧ Q9a (kq ≤ k) ∧ Q9a (wc.heap[gb101]? = some (.cells #[.int .i64 a0_0, .int .i64 a0_1, (.slice A0_2 l0_2.length c0_2)] 24 (0, 0))) ∧ Q9a (Below w.heap.size w wc))
 case first =>
  have H := HC2.out;clear HC2;by_cases c4 : a0_0 < 2
  ·rw [if_pos c4] at H;have c4b0 : decide (a0_0 < 2) = true := decide_eq_true c4;clear c4;(first | rw [c4b0] | (simp only [i64_w, i32_w]; rw [c4b0]) | skip)
   have H' := Q9a.mk H;clear H;have hcz5_0 : w3.cell? ⟨gb101, 0, none⟩ = some (.int .i64 a0_0) := (kC BK101.out 0).trans rfl;have hcz5_1 : w3.cell? ⟨gb101, 1, none⟩ = some (.int .i64 a0_1) := (kC BK101.out 1).trans rfl;have hcz5_2 : w3.cell? ⟨gb101, 2, none⟩ = some (.slice A0_2 l0_2.length c0_2) := (kC BK101.out 2).trans rfl;have hfz5_0 := kF BK101.out 0;have hfz5_1 := kF BK101.out 1;have hfz5_2 := kF BK101.out 2;go_wp2
   go_meet
   case rel => exact ⟨_, (true), (by first | rfl | (simp; done) | (simp [*]; done)), H', ⟨by first | omega | exact Nat.le_refl _⟩, ⟨by (with_reducible repeat (first | refine kN ?_ _ | refine kD ?_ | refine kA ?_ _)); exact BK101.out⟩, ⟨by repeat (first | (with_reducible first | exact HB.out | apply bA | apply bN | apply bD | refine bS ?_ GE101.out) | exact HB.out)⟩⟩
  rw [if_neg c4] at H;have c4b0 : decide (a0_0 < 2) = false := decide_eq_false c4;clear c4;(first | rw [c4b0] | (simp only [i64_w, i32_w]; rw [c4b0]) | skip)
  by_cases c6 : a0_1 < 1
  ·rw [if_pos c6] at H;have c6b0 : decide (a0_1 < 1) = true := decide_eq_true c6;clear c6;have H' := Q9a.mk H;clear H;have hcz7_0 : w3.cell? ⟨gb101, 0, none⟩ = some (.int .i64 a0_0) := (kC BK101.out 0).trans rfl;have hcz7_1 : w3.cell? ⟨gb101, 1, none⟩ = some (.int .i64 a0_1) := (kC BK101.out 1).trans rfl;have hcz7_2 : w3.cell? ⟨gb101, 2, none⟩ = some (.slice A0_2 l0_2.length c0_2) := (kC BK101.out 2).trans rfl;have hfz7_0 := kF BK101.out 0;have hfz7_1 := kF BK101.out 1;have hfz7_2 := kF BK101.out 2;go_wp2
   go_meet
   case rel => exact ⟨_, (true), (by first | rfl | (simp; done) | (simp [*]; done)), H', ⟨by first | omega | exact Nat.le_refl _⟩, ⟨by (with_reducible repeat (first | refine kN ?_ _ | refine kD ?_ | refine kA ?_ _)); exact BK101.out⟩, ⟨by repeat (first | (with_reducible first | exact HB.out | apply bA | apply bN | apply bD | refine bS ?_ GE101.out) | exact HB.out)⟩⟩
  rw [if_neg c6] at H;have c6b0 : decide (a0_1 < 1) = false := decide_eq_false c6;clear c6;have H' := Q9a.mk H;clear H;have hcz8_0 : w3.cell? ⟨gb101, 0, none⟩ = some (.int .i64 a0_0) := (kC BK101.out 0).trans rfl;have hcz8_1 : w3.cell? ⟨gb101, 1, none⟩ = some (.int .i64 a0_1) := (kC BK101.out 1).trans rfl;have hcz8_2 : w3.cell? ⟨gb101, 2, none⟩ = some (.slice A0_2 l0_2.length c0_2) := (kC BK101.out 2).trans rfl;have hfz8_0 := kF BK101.out 0;have hfz8_1 := kF BK101.out 1;have hfz8_2 := kF BK101.out 2;go_wp2
  go_meet
  case rel => exact ⟨_, (decide (a0_1 > 8)), (by first | rfl | (simp; done) | (simp [*]; done)), H', ⟨by first | omega | exact Nat.le_refl _⟩, ⟨by (with_reducible repeat (first | refine kN ?_ _ | refine kD ?_ | refine kA ?_ _)); exact BK101.out⟩, ⟨by repeat (first | (with_reducible first | exact HB.out | apply bA | apply bN | apply bD | refine bS ?_ GE101.out) | exact HB.out)⟩⟩
 case rest =>
  clear HC2;try clear c2
  try clear p2
  try clear c4
  try clear c4b0
  try clear c6
  try clear c6b0
  try clear hcz5_0
  try clear hcz5_1
  try clear hcz5_2
  try clear hcz7_0
  try clear hcz7_1
  try clear hcz7_2
  try clear hcz8_0
  try clear hcz8_1
  try clear hcz8_2
  try clear hfz5_0
  try clear hfz5_1
  try clear hfz5_2
  try clear hfz7_0
  try clear hfz7_1
  try clear hfz7_2
  try clear hfz8_0
  try clear hfz8_1
  try clear hfz8_2
  obtain ⟨kq, x17_1, rfl, HA, HJ1, BK101, HB⟩ := hcut
  cases kq with
  | zero => exact absurd HA.out (by simp [r4Order.j0])
  | succ kj1 =>
   have H := HA.out;clear HA;simp only [r4Order.j0] at H;by_cases c9 : x17_1 = true
   ·subst c9;have H1 : (some 0) = some r := by rw [if_pos rfl] at H; exact H
    clear H;have H := H1;clear H1;obtain rfl := Option.some.inj H;go_wp2
    go_ret
    exact ⟨by first | rfl | (simp [*, eN, eS] <;> rfl), by repeat (first | (with_reducible first | exact HB.out | apply bA | apply bN | apply bD | refine bS ?_ GE101.out) | exact HB.out)⟩
   replace c9 := Bool.eq_false_iff.mpr c9;subst c9;have H1 : (r4Order.l0 kj1 1 0 a0_0 a0_1 l0_2) = some r := by rw [if_neg (show ¬ (false = true) by decide)] at H; exact H
   clear H;have H := H1;clear H1;have H' := Q9a.mk H;clear H;go_wp2
   go_loopg [3, 4] kj1 (fun kq v3 v4 w' => ∃ (x3_2 : Int) (x4_2 : Int), v3 = .int .i64 x3_2 ∧ v4 = .int .i64 x4_2 ∧ Q9a (r4Order.l0 kq x3_2 x4_2 a0_0 a0_1 l0_2 = some r) ∧ Q9a (kq ≤ kj1) ∧ Q9a (w'.heap[gb101]? = some (.cells #[.int .i64 a0_0, .int .i64 a0_1, (.slice A0_2 l0_2.length c0_2)] 24 (0, 0))) ∧ Q9a (Below w.heap.size w w'))
   case atStart => exact ⟨(1), (0), (by first | rfl | (simp; done) | (simp [*]; done)), (by first | rfl | (simp; done) | (simp [*]; done)), H', ⟨Nat.le_refl _⟩, ⟨by (with_reducible repeat (first | refine kN ?_ _ | refine kD ?_ | refine kA ?_ _)); exact BK101.out⟩, ⟨by repeat (first | (with_reducible first | exact HB.out | apply bA | apply bN | apply bD | refine bS ?_ GE101.out) | exact HB.out)⟩⟩
   case round =>
    clear H';try clear c2
    try clear p2
    try clear c4
    try clear c4b0
    try clear c6
    try clear c6b0
    try clear c9
    try clear hcz5_0
    try clear hcz5_1
    try clear hcz5_2
    try clear hcz7_0
    try clear hcz7_1
    try clear hcz7_2
    try clear hcz8_0
    try clear hcz8_1
    try clear hcz8_2
    try clear hfz5_0
    try clear hfz5_1
    try clear hfz5_2
    try clear hfz7_0
    try clear hfz7_1
    try clear hfz7_2
    try clear hfz8_0
    try clear hfz8_1
    try clear hfz8_2
    try clear p2
    obtain ⟨x3_2, x4_2, rfl, rfl, HA, HK2, BK101, HB⟩ := hrel
    cases gk with
    | zero => exact absurd HA.out (by simp [r4Order.l0])
    | succ k2 =>
     have H := HA.out;clear HA;simp only [r4Order.l0] at H;by_cases c10 : x4_2 < a0_1
     ·rw [if_pos c10] at H;have c10b0 : decide (x4_2 < a0_1) = true := decide_eq_true c10;clear c10;by_cases c11 : a0_0 = 0
      ·rw [if_pos c11] at H;exact absurd H (by simp)
      rw [if_neg c11] at H;have c11b0 : (a0_0 == 0) = false := beq_eq_false_iff_ne.mpr c11;have c11b1 : (a0_0 != 0) = true := bne_iff_ne.mpr c11;by_cases c12 : x3_2 > (wrap64 (Int.tdiv 256 a0_0))
      ·rw [if_pos c12] at H;have c12b0 : decide ((wrap64 (Int.tdiv 256 a0_0)) < x3_2) = true := decide_eq_true c12;clear c12;obtain rfl := Option.some.inj H;have hcz13_0 : wr.cell? ⟨gb101, 0, none⟩ = some (.int .i64 a0_0) := (kC BK101.out 0).trans rfl;have hcz13_1 : wr.cell? ⟨gb101, 1, none⟩ = some (.int .i64 a0_1) := (kC BK101.out 1).trans rfl;have hcz13_2 : wr.cell? ⟨gb101, 2, none⟩ = some (.slice A0_2 l0_2.length c0_2) := (kC BK101.out 2).trans rfl;have hfz13_0 := kF BK101.out 0;have hfz13_1 := kF BK101.out 1;have hfz13_2 := kF BK101.out 2;go_wp2
       go_ret
       exact ⟨by first | rfl | (simp [*, eN, eS] <;> rfl), by repeat (first | (with_reducible first | exact HB.out | apply bA | apply bN | apply bD | refine bS ?_ GE101.out) | exact HB.out)⟩
      rw [if_neg c12] at H;have c12b0 : decide ((wrap64 (Int.tdiv 256 a0_0)) < x3_2) = false := decide_eq_false c12;clear c12;have H' := Q9a.mk H;clear H;have hcz14_0 : wr.cell? ⟨gb101, 0, none⟩ = some (.int .i64 a0_0) := (kC BK101.out 0).trans rfl;have hcz14_1 : wr.cell? ⟨gb101, 1, none⟩ = some (.int .i64 a0_1) := (kC BK101.out 1).trans rfl;have hcz14_2 : wr.cell? ⟨gb101, 2, none⟩ = some (.slice A0_2 l0_2.length c0_2) := (kC BK101.out 2).trans rfl;have hfz14_0 := kF BK101.out 0;have hfz14_1 := kF BK101.out 1;have hfz14_2 := kF BK101.out 2;go_wp2
      go_roundg k2
      case measure => have := HJ1.out; have := HK2.out; omega
      case rel => exact ⟨(wrap64 (x3_2 * a0_0)), (wrap64 (x4_2 + 1)), (by first | rfl | (simp; done) | (simp [*]; done)), (by first | rfl | (simp; done) | (simp [*]; done)), H', ⟨by have := HJ1.out; have := HK2.out; omega⟩, ⟨by (with_reducible repeat (first | refine kN ?_ _ | refine kD ?_ | refine kA ?_ _)); exact BK101.out⟩, ⟨by repeat (first | (with_reducible first | exact HB.out | apply bA | apply bN | apply bD | refine bS ?_ GE101.out) | exact HB.out)⟩⟩
     rw [if_neg c10] at H;have c10b0 : decide (x4_2 < a0_1) = false := decide_eq_false c10;clear c10;obtain rfl := Option.some.inj H;have hcz15_0 : wr.cell? ⟨gb101, 0, none⟩ = some (.int .i64 a0_0) := (kC BK101.out 0).trans rfl;have hcz15_1 : wr.cell? ⟨gb101, 1, none⟩ = some (.int .i64 a0_1) := (kC BK101.out 1).trans rfl;have hcz15_2 : wr.cell? ⟨gb101, 2, none⟩ = some (.slice A0_2 l0_2.length c0_2) := (kC BK101.out 2).trans rfl;have hfz15_0 := kF BK101.out 0;have hfz15_1 := kF BK101.out 1;have hfz15_2 := kF BK101.out 2;go_wp2
     go_ret
     exact ⟨by first | rfl | (simp [*, eN, eS] <;> rfl), by repeat (first | (with_reducible first | exact HB.out | apply bA | apply bN | apply bD | refine bS ?_ GE101.out) | exact HB.out)⟩
def r4prime.l0 : Nat → Int → Int → Option (Bool)
 | 0, _, _ => none
 | k + 1, x0, x3 => if x3 < x0 then (if x3 = 0 then (none) else (if (Int.tmod x0 x3) = 0 then (some false) else (r4prime.l0 k x0 (wrap64 (x3 + 1))))) else (some true)
def r4prime.f (k : Nat) (a0 : Int) : Option (Bool) := r4prime.l0 k a0 2
theorem r4prime.calls (k : Nat) (a0 : Int) (r : Bool) (w : World) (h : r4prime.f k a0 = some r) :
  Calls Try.prog 60 #[.int .i64 a0] w fun e w' => e = .returned (.bool r) ∧ Drawn0 w w' := by
 have H : (r4prime.l0 k a0 2) = some r := h;clear h;have H' := Q9a.mk H;clear H;go_enter Try.func60, Try.ntmps60
 go_wp2
 go_loopg [3] k (fun kq v3 w' => ∃ (x3_1 : Int), v3 = .int .i64 x3_1 ∧ Q9a (r4prime.l0 kq a0 x3_1 = some r) ∧ Q9a (kq ≤ k) ∧ Drawn0 w w')
 case atStart => exact ⟨(2), (by first | rfl | (simp; done) | (simp [*]; done)), H', ⟨Nat.le_refl _⟩, by repeat (first | exact Drawn0.refl _ | apply Drawn0.step)⟩
 case round =>
  clear H';obtain ⟨x3_1, rfl, HA, HK1, ⟨m1, rfl⟩⟩ := hrel
  cases gk with
  | zero => exact absurd HA.out (by simp [r4prime.l0])
  | succ k1 =>
   have H := HA.out;clear HA;simp only [r4prime.l0] at H;by_cases c2 : x3_1 < a0
   ·rw [if_pos c2] at H;have c2b0 : decide (x3_1 < a0) = true := decide_eq_true c2;clear c2;by_cases c3 : x3_1 = 0
    ·rw [if_pos c3] at H;exact absurd H (by simp)
    rw [if_neg c3] at H;have c3b0 : (x3_1 == 0) = false := beq_eq_false_iff_ne.mpr c3;have c3b1 : (x3_1 != 0) = true := bne_iff_ne.mpr c3;by_cases c4 : (Int.tmod a0 x3_1) = 0
    ·rw [if_pos c4] at H;have c4b0 : ((Int.tmod a0 x3_1) == 0) = true := beq_iff_eq.mpr c4;have c4b1 : ((Int.tmod a0 x3_1) != 0) = false := bne_eq_false_iff_eq.mpr c4;clear c4;obtain rfl := Option.some.inj H;go_wp2
     go_ret
     exact ⟨by first | rfl | (simp; done) | (simp [*]; done), by repeat (first | exact Drawn0.refl _ | apply Drawn0.step)⟩
    rw [if_neg c4] at H;have c4b0 : ((Int.tmod a0 x3_1) == 0) = false := beq_eq_false_iff_ne.mpr c4;have c4b1 : ((Int.tmod a0 x3_1) != 0) = true := bne_iff_ne.mpr c4;have H' := Q9a.mk H;clear H;go_wp2
    go_roundg k1
    case measure => have := HK1.out; omega
    case rel => exact ⟨(wrap64 (x3_1 + 1)), (by first | rfl | (simp; done) | (simp [*]; done)), H', ⟨by have := HK1.out; omega⟩, by repeat (first | exact Drawn0.refl _ | apply Drawn0.step)⟩
   rw [if_neg c2] at H;have c2b0 : decide (x3_1 < a0) = false := decide_eq_false c2;clear c2;obtain rfl := Option.some.inj H;go_wp2
   go_ret
   exact ⟨by first | rfl | (simp; done) | (simp [*]; done), by repeat (first | exact Drawn0.refl _ | apply Drawn0.step)⟩
def r4digits.l0 : Nat → Int → Int → Int → List Int → Int → Option (List Int)
 | 0, _, _, _, _, _ => none
 | k + 1, x0, x1, x2, x7, x8 => if x8 < x2 then (if x1 = 0 then (none) else (if 0 ≤ x8 then (if x8 < (x7.length : Int) then (r4digits.l0 k (wrap64 (Int.tdiv x0 x1)) x1 x2 (x7.set (x8 : Int).toNat (Int.tmod x0 x1)) (wrap64 (x8 + 1))) else (none)) else (none))) else (some x7)
def r4digits.f (k : Nat) (a0 : Int) (a1 : Int) (a2 : Int) : Option (List Int) := if 0 ≤ a2 then (if (a2 : Int).toNat ≤ 35184372088832 then (r4digits.l0 k a0 a1 a2 (List.replicate (a2 : Int).toNat 0) 0) else (none)) else (none)
theorem r4digits.calls (k : Nat) (a0 : Int) (a1 : Int) (a2 : Int) (r : List Int) (w : World) (h : r4digits.f k a0 a1 a2 = some r) :
  Calls Try.prog 72 #[.int .i64 a0, .int .i64 a1, .int .i64 a2] w fun e w' => ∃ v0_ : Value, e = .returned (v0_) ∧ Kd.R (Kd.int .i64) 3 w' w.heap.size (fun _ => True) v0_ r ∧ Below w.heap.size w w' := by
 have HB := Q9a.mk (Below.refl w.heap.size w);have H : (if 0 ≤ a2 then (if (a2 : Int).toNat ≤ 35184372088832 then (r4digits.l0 k a0 a1 a2 (List.replicate (a2 : Int).toNat 0) 0) else (none)) else (none)) = some r := h;clear h;by_cases c4 : 0 ≤ a2
 ·rw [if_pos c4] at H;have c4b0 := eq_true c4;have c4b1 : decide (0 ≤ a2) = true := decide_eq_true c4;clear c4;by_cases c5 : (a2 : Int).toNat ≤ 35184372088832
  ·rw [if_pos c5] at H;have c5b0 := eq_true c5;have c5b1 : decide ((a2 : Int).toNat ≤ 35184372088832) = true := decide_eq_true c5;clear c5;obtain ⟨y102, hy102⟩ : ∃ y_ : List Int, y_ = (List.replicate (a2 : Int).toNat 0) := ⟨_, rfl⟩;replace H : (r4digits.l0 k a0 a1 a2 y102 0) = some r := by first | (rw [hy102]; with_reducible exact H) | (have H2_ := (Option.bind_some _ _).symm.trans H; rw [hy102]; with_reducible exact H2_) | (have H2_ := (Option.bind_some _ _).symm.trans H; with_reducible exact H2_) | with_reducible exact H | (rw [hy102]; exact H) | exact H
   have Ny102 := Q9a.mk hy102;clear hy102;have H' := Q9a.mk H;clear H;go_enter Try.func72, Try.ntmps72
   go_wp2_with (first | ((with_reducible refine gD (N := 10) rfl ?_); refine Kd.R_make (Kd.int .i64) _ 3 rfl (N := 10) rfl 22 _ _ rfl a2 rfl rfl Try.underlying22 (.int .i64 0) 8 info3 rfl (by decide) (by omega) 0 (ok := fun _ => True) (okp := fun _ => True) rfl (fun _ hk => hk) trivial (of_decide_eq_true (by first | (with_reducible assumption) | assumption)) (Nat.le_trans (Nat.mul_le_mul_right _ (of_decide_eq_true (by first | (with_reducible assumption) | assumption) : a2.toNat ≤ 35184372088832)) (by omega)) (Below.refl _ _) (Nat.le_refl _) ?_; intro v103 w6 ho7 hb hg_ hnew_; clear hg_ hnew_; (first | rw [← Ny102.out] at ho7 | (simp only [Int.reduceToNat] at ho7; rw [← Ny102.out] at ho7)); have n0_ := Q9a.mk (Kd.rL ho7 (bZ (by repeat (first | (with_reducible first | exact HB.out | apply bA | apply bN | apply bD) | exact HB.out)))); have n1_ := Q9a.mk (bP (by repeat (first | (with_reducible first | exact HB.out | apply bA | apply bN | apply bD) | exact HB.out)) hb); clear HB; have HO104 := n0_; have HB := n1_; clear n0_ n1_; clear hb ho7))
   go_loopg [0, 8] k (fun kq v0 v8 w' => ∃ (x0_1 : Int) (x7_1 : List Int) (x8_1 : Int), v0 = .int .i64 x0_1 ∧ v8 = .int .i64 x8_1 ∧ Q9a (r4digits.l0 kq x0_1 a1 a2 x7_1 x8_1 = some r) ∧ Q9a (kq ≤ k) ∧ Q9a (Kd.R (Kd.int .i64) 3 w' w.heap.size (fun _ => True) v103 x7_1) ∧ Q9a (Below w.heap.size w w'))
   case atStart => exact ⟨(a0), (y102), (0), (by first | rfl | (simp; done) | (simp [*]; done)), (by first | rfl | (simp; done) | (simp [*]; done)), H', ⟨Nat.le_refl _⟩, ⟨by (with_reducible repeat (first | apply Kd.rA | apply Kd.rN | apply Kd.rD)); exact HO104.out⟩, ⟨by repeat (first | (with_reducible first | exact HB.out | apply bA | apply bN | apply bD) | exact HB.out)⟩⟩
   case round =>
    clear H';try clear p2
    try clear c4
    try clear c4b0
    try clear c4b1
    try clear c5
    try clear c5b0
    try clear c5b1
    try clear c7
    obtain ⟨x0_1, x7_1, x8_1, rfl, rfl, HA, HK1, HO_7, HB⟩ := hrel
    cases gk with
    | zero => exact absurd HA.out (by simp [r4digits.l0])
    | succ k1 =>
     have H := HA.out;clear HA;simp only [r4digits.l0] at H;by_cases c8 : x8_1 < a2
     ·rw [if_pos c8] at H;have c8b0 : decide (x8_1 < a2) = true := decide_eq_true c8;clear c8;by_cases c9 : a1 = 0
      ·rw [if_pos c9] at H;exact absurd H (by simp)
      rw [if_neg c9] at H;have c9b0 : (a1 == 0) = false := beq_eq_false_iff_ne.mpr c9;have c9b1 : (a1 != 0) = true := bne_iff_ne.mpr c9;by_cases c10 : 0 ≤ x8_1
      ·rw [if_pos c10] at H;have c10b0 : decide (0 ≤ x8_1) = true := decide_eq_true c10;clear c10;by_cases c11 : x8_1 < (x7_1.length : Int)
       ·rw [if_pos c11] at H;have c11b0 : decide (x8_1 < (x7_1.length : Int)) = true := decide_eq_true c11;clear c11;obtain ⟨y105, hy105⟩ : ∃ y_ : List Int, y_ = (x7_1.set (x8_1 : Int).toNat (Int.tmod x0_1 a1)) := ⟨_, rfl⟩;replace H : (r4digits.l0 k1 (wrap64 (Int.tdiv x0_1 a1)) a1 a2 y105 (wrap64 (x8_1 + 1))) = some r := by first | (rw [hy105]; with_reducible exact H) | (have H2_ := (Option.bind_some _ _).symm.trans H; rw [hy105]; with_reducible exact H2_) | (have H2_ := (Option.bind_some _ _).symm.trans H; with_reducible exact H2_) | with_reducible exact H | (rw [hy105]; exact H) | exact H
        have Ny105 := Q9a.mk hy105;clear hy105;have H' := Q9a.mk H;clear H;have p12 : 0 ≤ (x8_1 : Int) := of_decide_eq_true (by first | (with_reducible assumption) | assumption);have q12 : (x8_1 : Int) < ((x7_1.length : Int) : Int) := of_decide_eq_true (by first | (with_reducible assumption) | assumption);obtain ⟨go12, co12, eo12, gb12, gl12, cl12, HG12⟩ := Kd.R_form HO_7.out (by omega);(first | cases eo12 | (injection eo12 with ea_ en_ ec_; (first | subst ea_ | (injection ea_ with ea_; subst ea_)); subst ec_; clear en_))
        have GB12 := Q9a.mk gb12;have GG12 := Q9a.mk HG12;clear gb12 gl12 HG12;obtain ⟨hx12_0, hf12_0⟩ := Kd.R_celln 0 HO_7.out (x8_1 : Int) p12 q12;replace p12 := eq_true p12;replace q12 := eq_true q12;have HP13 := Kd.R_putg HO_7.out (x8_1 : Int) (Int.tmod x0_1 a1);go_wp2_with (first | ((with_reducible refine gate_store (t := 3) (p := 21) rfl ?_); refine store_event (t := 3) (p := 21) (v := ?vo_w14) (w1 := (wr.setCell ⟨go12, (x8_1 : Int).toNat, none⟩ (.int .i64 (Int.tmod x0_1 a1)))) ?hg ?ho ?hn ?hr ?_; (case ho => rfl); (case hg => rfl); (case hn => rfl); (case hr => first | (go_simp; done) | (go_simp; rfl)); intro w14 hw; have hg : wr.grownBy w14 (some go12) := (by rw [hw]; exact HP13.2); have hp_ : Kd.R (Kd.int .i64) 3 w14 w.heap.size (fun _ => True) (.slice (some ⟨go12, 0, none⟩) x7_1.length co12) y105 := (by rw [hw, Ny105.out]; exact HP13.1); clear HP13; have n0_ := Q9a.mk (hp_); have n1_ := Q9a.mk ((by rw [hw]; exact bS (HB.out) GB12.out : Below w.heap.size w w14)); clear HO_7; clear HB; have HO_7 := n0_; have HB := n1_; clear n0_ n1_; clear hg hw hp_))
        go_roundg k1
        case measure => have := HK1.out; omega
        case rel => exact ⟨(wrap64 (Int.tdiv x0_1 a1)), (y105), (wrap64 (x8_1 + 1)), (by first | rfl | (simp; done) | (simp [*]; done)), (by first | rfl | (simp; done) | (simp [*]; done)), H', ⟨by have := HK1.out; omega⟩, ⟨by (with_reducible repeat (first | apply Kd.rA | apply Kd.rN | apply Kd.rD)); exact HO_7.out⟩, ⟨by repeat (first | (with_reducible first | exact HB.out | apply bA | apply bN | apply bD) | exact HB.out)⟩⟩
       rw [if_neg c11] at H;exact absurd H (by simp)
      rw [if_neg c10] at H;exact absurd H (by simp)
     rw [if_neg c8] at H;have c8b0 : decide (x8_1 < a2) = false := decide_eq_false c8;clear c8;obtain rfl := Option.some.inj H;go_wp2
     go_ret
     exact ⟨_, by first | rfl | (simp [*, eN, eS] <;> rfl), by (with_reducible repeat (first | apply Kd.rA | apply Kd.rN | apply Kd.rD)); exact HO_7.out, by repeat (first | (with_reducible first | exact HB.out | apply bA | apply bN | apply bD) | exact HB.out)⟩
  rw [if_neg c5] at H;exact absurd H (by simp)
 rw [if_neg c4] at H;exact absurd H (by simp)
end
end Go.Proofs.Ytlbddjojhcgpiaa.P
end
-- Pa2
section
namespace Go.Proofs.Ytlbddjojhcgpiaa.P
noncomputable section
open Go.RowKit Go.Proofs.Ytlbddjojhcgpiaa.Hand Go.Proofs.YtlbddjojhcgpiaaW.PrintWords Go.Proofs.YtlbddjojhcgpiaaW.PrintLast Go.Proofs.YtlbddjojhcgpiaaW.PrintMore
set_option linter.unusedVariables false
set_option linter.unusedSimpArgs false
mutual
def r4divides.l0 : Nat → List Int → Int → Int → List Int → Int → Option (Bool)
 | 0, _, _, _, _, _ => none
 | k + 1, x0, x2, x7, x8, x9 => if x9 ≥ x7 then (if 0 ≤ x9 then (if x9 < (x8.length : Int) then (r4divides.l1 k x0 x2 x7 x8 x9 (rd x8 x9) 0) else (none)) else (none)) else (r4divides.l2 k x8 0)
def r4divides.l1 : Nat → List Int → Int → Int → List Int → Int → Int → Int → Option (Bool)
 | 0, _, _, _, _, _, _, _ => none
 | k + 1, x0, x2, x7, x8, x9, x10, x11 => if x11 < x7 then (if 0 ≤ (wrap64 ((wrap64 (x9 - x7)) + x11)) then (if (wrap64 ((wrap64 (x9 - x7)) + x11)) < (x8.length : Int) then (if 0 ≤ x11 then (if x11 < (x0.length : Int) then (if x2 = 0 then (none) else (r4divides.l1 k x0 x2 x7 (x8.set ((wrap64 ((wrap64 (x9 - x7)) + x11)) : Int).toNat (Int.tmod (wrap64 ((rd x8 (wrap64 ((wrap64 (x9 - x7)) + x11))) + (wrap64 ((wrap64 (x2 - x10)) * (rd x0 x11))))) x2)) x9 x10 (wrap64 (x11 + 1)))) else (none)) else (none)) else (none)) else (none)) else (if 0 ≤ x9 then (if x9 < (x8.length : Int) then (r4divides.l0 k x0 x2 x7 (x8.set (x9 : Int).toNat 0) (wrap64 (x9 - 1))) else (none)) else (none))
def r4divides.l2 : Nat → List Int → Int → Option (Bool)
 | 0, _, _ => none
 | k + 1, x8, x12 => if x12 < (x8.length : Int) then (if 0 ≤ x12 then (if (rd x8 x12) = 0 then (r4divides.l2 k x8 (wrap64 (x12 + 1))) else (some false)) else (none)) else (some true)
end
def r4divides.f (k : Nat) (l0 : List Int) (l1 : List Int) (a2 : Int) : Option (Bool) := (some (([] : List Int) : List Int)).bind fun y106 => (if y106.length + l1.length < 17592186044416 then ((some (y106 ++ l1 : List Int)).bind fun y109 => (if y109.length < 17592186044416 then ((some (y109 ++ [1] : List Int)).bind fun y112 => (r4divides.l0 k l0 a2 (l0.length : Int) y112 (wrap64 ((y112.length : Int) - 1)))) else (none))) else (none))
def r4divides.T11 : Bool × List (List Nat × List Nat) := (true, [([], []), ([], []), ([], []), ([1, 2], [1, 2]), ([], []), ([3, 4], [3, 4]), ([], []), ([], []), ([], []), ([7, 8], [7, 8]), ([], []), ([9, 10], [9, 10]), ([6, 11], [6, 11]), ([12], [12]), ([], []), ([], []), ([14, 15], [14, 15]), ([], []), ([], []), ([17, 18], [17, 18]), ([19], [19]), ([16, 20], [16, 20]), ([13, 21], [13, 21]), ([], []), ([22, 23], [22, 23]), ([0, 5, 0, 1, 2, 3, 4, 5, 6, 7, 8, 9, 10, 11, 12, 13, 14, 15, 16, 17, 18, 19, 20, 21, 22, 23, 24], [0, 5]), ([25, 24, 0, 1, 2, 3, 4, 5, 6, 7, 8, 9, 10, 11, 12, 13, 14, 15, 16, 17, 18, 19, 20, 21, 22, 23, 24], [24, 25])])
def r4divides.B11 : List Nat := [0, 0, 0, 6, 0, 30, 0, 0, 0, 384, 0, 1920, 4032, 8128, 0, 0, 49152, 0, 0, 393216, 917504, 2080768, 4194240, 0, 16777152, 33554431, 67108863]
theorem r4divides.tab11 : rtab .any (opsOf Try.f88 11) = r4divides.T11 := by kernel_rfl
theorem r4divides.bits11 : waitsOk r4divides.T11.2 r4divides.B11 = true := by kernel_rfl
theorem r4divides.calls (k : Nat) (A0 : Option Addr) (c0 : Nat) (l0 : List Int) (A1 : Option Addr) (c1 : Nat) (l1 : List Int) (a2 : Int) (r : Bool) (w : World) (hr0 : Kd.C (Kd.int .i64) w A0 l0.length l0) (hc0 : l0.length ≤ c0) (hr1 : Kd.C (Kd.int .i64) w A1 l1.length l1) (hc1 : l1.length ≤ c1) (h : r4divides.f k l0 l1 a2 = some r) :
  Calls Try.prog 88 #[.slice A0 l0.length c0, .slice A1 l1.length c1, .int .i64 a2] w fun e w' => e = .returned (.bool r) ∧ Below w.heap.size w w' := by
 have HR0 := Q9a.mk hr0;have HC0 := Q9a.mk hc0;clear hr0 hc0;have HR1 := Q9a.mk hr1;have HC1 := Q9a.mk hc1;clear hr1 hc1;have HB := Q9a.mk (Below.refl w.heap.size w);have H : ((some (([] : List Int) : List Int)).bind fun y106 => (if y106.length + l1.length < 17592186044416 then ((some (y106 ++ l1 : List Int)).bind fun y109 => (if y109.length < 17592186044416 then ((some (y109 ++ [1] : List Int)).bind fun y112 => (r4divides.l0 k l0 a2 (l0.length : Int) y112 (wrap64 ((y112.length : Int) - 1)))) else (none))) else (none))) = some r := h;clear h;obtain ⟨y106, hy106⟩ : ∃ y_ : List Int, y_ = (([] : List Int)) := ⟨_, rfl⟩;replace H : (if y106.length + l1.length < 17592186044416 then ((some (y106 ++ l1 : List Int)).bind fun y109 => (if y109.length < 17592186044416 then ((some (y109 ++ [1] : List Int)).bind fun y112 => (r4divides.l0 k l0 a2 (l0.length : Int) y112 (wrap64 ((y112.length : Int) - 1)))) else (none))) else (none)) = some r := by first | (rw [hy106]; with_reducible exact H) | (have H2_ := (Option.bind_some _ _).symm.trans H; rw [hy106]; with_reducible exact H2_) | (have H2_ := (Option.bind_some _ _).symm.trans H; with_reducible exact H2_) | with_reducible exact H | (rw [hy106]; exact H) | exact H
 have Ny106 := Q9a.mk hy106;clear hy106;by_cases c4 : y106.length + l1.length < 17592186044416
 ·rw [if_pos c4] at H;have LMc4 := Q9a.mk c4;clear c4;obtain ⟨y109, hy109⟩ : ∃ y_ : List Int, y_ = (y106 ++ l1) := ⟨_, rfl⟩;replace H : (if y109.length < 17592186044416 then ((some (y109 ++ [1] : List Int)).bind fun y112 => (r4divides.l0 k l0 a2 (l0.length : Int) y112 (wrap64 ((y112.length : Int) - 1)))) else (none)) = some r := by first | (rw [hy109]; with_reducible exact H) | (have H2_ := (Option.bind_some _ _).symm.trans H; rw [hy109]; with_reducible exact H2_) | (have H2_ := (Option.bind_some _ _).symm.trans H; with_reducible exact H2_) | with_reducible exact H | (rw [hy109]; exact H) | exact H
  have Ny109 := Q9a.mk hy109;clear hy109;by_cases c5 : y109.length < 17592186044416
  ·rw [if_pos c5] at H;have LMc5 := Q9a.mk c5;clear c5;obtain ⟨y112, hy112⟩ : ∃ y_ : List Int, y_ = (y109 ++ [1]) := ⟨_, rfl⟩;replace H : (r4divides.l0 k l0 a2 (l0.length : Int) y112 (wrap64 ((y112.length : Int) - 1))) = some r := by first | (rw [hy112]; with_reducible exact H) | (have H2_ := (Option.bind_some _ _).symm.trans H; rw [hy112]; with_reducible exact H2_) | (have H2_ := (Option.bind_some _ _).symm.trans H; with_reducible exact H2_) | with_reducible exact H | (rw [hy112]; exact H) | exact H
   have Ny112 := Q9a.mk hy112;clear hy112;have H' := Q9a.mk H;clear H;go_enter Try.func88, Try.ntmps88
   go_wp2_with (first | ((with_reducible refine gD (N := 15) rfl ?_); refine Kd.R_lit (Kd.int .i64) _ 3 ?hg (N := 15) ?hd (xs := ([] : List Int)) (inner := []) (ok := fun _ => True) (okp := fun _ => True) ?hr ?hp (fun _ hk => hk) trivial (Below.refl _ _) (Nat.le_refl _) (by simp) ?_; (case hd => rfl); (case hg => rfl); (case hr => first | (go_simp; done) | (go_simp; rfl)); (case hp => exact (Reps.none _ _)); intro v107 w6 ho7 hb hg_ hnew_; clear hg_ hnew_; (first | rw [← Ny106.out] at ho7 | (simp only [Int.reduceToNat] at ho7; rw [← Ny106.out] at ho7)); have n0_ := Q9a.mk (Kd.rL ho7 (bZ (by repeat (first | (with_reducible first | exact HB.out | apply bA | apply bN | apply bD) | exact HB.out)))); have n1_ := Q9a.mk (bP (by repeat (first | (with_reducible first | exact HB.out | apply bA | apply bN | apply bD) | exact HB.out)) hb); clear HB; have HO108 := n0_; have HB := n1_; clear n0_ n1_; clear hb ho7) | ((with_reducible refine gate_builtin (b := .append) (xs := #[.tmp 15, .tmp 16]) rfl ?_); at_builtin; refine Kd.R_append_rows (Kd.int .i64) (w0 := w) w.heap.size rfl (.tmp 15) (.tmp 16) 22 3 (.int .i64 0) 8 rfl Try.underlying22 info3 rfl (by decide) (by omega) v107 y106 l1 _ _ _ (fun _ => True) (fun _ => False) rfl rfl ?aO ?aR (fun _ _ h => h) (fun _ h => h.elim) ?aF ?aB ?aS ?aL ?_; (case aR => repeat (first | exact (Kd.cB HR1.out HB.out) | with_reducible first | refine Kd.cA ?_ _ | refine Kd.cN ?_ _ | refine Kd.cD ?_)); (case aB => exact (by repeat (first | (with_reducible first | exact HB.out | apply bA | apply bN | apply bD) | exact HB.out))); (case aF => exact (fun _ _ => trivial)); (case aO => exact (by (with_reducible repeat (first | apply Kd.rA | apply Kd.rN | apply Kd.rD)); exact HO108.out)); (case aS => exact (bZ (by repeat (first | (with_reducible first | exact HB.out | apply bA | apply bN | apply bD) | exact HB.out)))); (case aL => have := LMc4.out; omega); intro v110 w8 ho hb hg hat; rw [← Ny109.out] at ho; have n0_ := Q9a.mk (hb); have n1_ := Q9a.mk (ho); clear HB; clear HO108; have HB := n0_; have HO111 := n1_; clear n0_ n1_; clear ho hb hg hat) | ((with_reducible refine gate_builtin (b := .append) (xs := #[.tmp 18, .tmp 19]) rfl ?_); at_builtin; refine Kd.R_append (Kd.int .i64) (w0 := w) w.heap.size rfl (.tmp 18) (.tmp 19) 22 3 (.int .i64 0) 8 rfl Try.underlying22 info3 rfl (by decide) (by omega) v110 y109 1 [.int .i64 1] (fun _ => True) (fun _ => False) rfl rfl ?aP (fun _ hk => hk.elim) ?aF ?aO ?aB ?aS ?aL ?_; (case aP => exact rfl); (case aB => exact (by repeat (first | (with_reducible first | exact HB.out | apply bA | apply bN | apply bD) | exact HB.out))); (case aF => exact (fun _ _ => trivial)); (case aO => exact (by (with_reducible repeat (first | apply Kd.rA | apply Kd.rN | apply Kd.rD)); exact HO111.out)); (case aS => exact (bZ (by repeat (first | (with_reducible first | exact HB.out | apply bA | apply bN | apply bD) | exact HB.out)))); (case aL => have := LMc5.out; omega); intro v113 w9 ho hb hg hat; rw [← Ny112.out] at ho; have n0_ := Q9a.mk (hb); have n1_ := Q9a.mk (ho); clear HB; clear HO111; have HB := n0_; have HO114 := n1_; clear n0_ n1_; clear ho hb hg hat; obtain ⟨Ao10, co10, eo10⟩ := Kd.R_slice HO114.out; subst eo10))
   go_loopg [9] k (fun kq v9 w' => ∃ (x8_1 : List Int) (x9_1 : Int), v9 = .int .i64 x9_1 ∧ Q9a (r4divides.l0 kq l0 a2 (l0.length : Int) x8_1 x9_1 = some r) ∧ Q9a (kq ≤ k) ∧ Q9a (Kd.R (Kd.int .i64) 3 w' w.heap.size (fun _ => True) (.slice Ao10 y112.length co10) x8_1) ∧ Q9a (Below w.heap.size w w'))
   case atStart => exact ⟨(y112), (wrap64 ((y112.length : Int) - 1)), (by first | rfl | (simp; done) | (simp [*]; done)), H', ⟨Nat.le_refl _⟩, ⟨by (with_reducible repeat (first | apply Kd.rA | apply Kd.rN | apply Kd.rD)); exact HO114.out⟩, ⟨by repeat (first | (with_reducible first | exact HB.out | apply bA | apply bN | apply bD) | exact HB.out)⟩⟩
   case round =>
    clear H';try clear c1
    try clear p2
    try clear c4
    try clear c5
    try clear p6
    try clear c8
    obtain ⟨x8_1, x9_1, rfl, HA, HK1, HO_8, HB⟩ := hrel;have hl8_1 := (Kd.R_reads' HO_8.out).1;rw [hl8_1] at HO_8;(try simp only [hl8_1])
    cases gk with
    | zero => exact absurd HA.out (by simp [r4divides.l0])
    | succ k1 =>
     have H := HA.out;clear HA;simp only [r4divides.l0] at H;by_cases c11 : x9_1 ≥ (l0.length : Int)
     ·rw [if_pos c11] at H;have c11b0 : decide ((l0.length : Int) ≤ x9_1) = true := decide_eq_true c11;(try (have c11b0h := c11b0; rw [hl8_1] at c11b0h))
      clear c11;by_cases c12 : 0 ≤ x9_1
      ·rw [if_pos c12] at H;have c12b0 : decide (0 ≤ x9_1) = true := decide_eq_true c12;clear c12;by_cases c13 : x9_1 < (x8_1.length : Int)
       ·rw [if_pos c13] at H;have c13b0 : decide (x9_1 < (x8_1.length : Int)) = true := decide_eq_true c13;(try (have c13b0h := c13b0; rw [hl8_1] at c13b0h))
        clear c13;have H' := Q9a.mk H;clear H;have p115 : 0 ≤ (x9_1 : Int) := of_decide_eq_true (by first | (with_reducible assumption) | assumption);have q115 : x9_1 < (x8_1.length : Int) := of_decide_eq_true (by first | (with_reducible assumption) | assumption);obtain ⟨ad115, e115, hx115_0⟩ := Kd.at_int (Kd.R_reads' HO_8.out).2.2 x9_1 p115 q115
        cases e115
        obtain ⟨go115, co115, eo115, gb115, gl115, cl115, HGf115⟩ := Kd.R_form HO_8.out (by omega);(injection eo115 with ea_ en_ ec_; injection ea_ with ea_; subst ea_; subst ec_; clear en_)
        have GB115 := Q9a.mk gb115;have GG115 := Q9a.mk HGf115;clear gb115 gl115 HGf115;(first | simp only [add_plain] at hx115_0 | skip)
        replace p115 := eq_true p115;replace q115 := eq_true q115;go_wp2
        go_loopg [11] k1 (fun kq v11 w' => ∃ (x8_2 : List Int) (x11_2 : Int), v11 = .int .i64 x11_2 ∧ Q9a (r4divides.l1 kq l0 a2 (l0.length : Int) x8_2 x9_1 (rd x8_1 x9_1) x11_2 = some r) ∧ Q9a (kq ≤ k1) ∧ Q9a (Kd.R (Kd.int .i64) 3 w' w.heap.size (fun _ => True) (.slice (some ⟨go115, 0, none⟩) x8_1.length co10) x8_2) ∧ Q9a (Below w.heap.size w w'))
        case atStart => exact ⟨(x8_1), (0), (by first | rfl | (simp; done) | (simp [*]; done)), H', ⟨Nat.le_refl _⟩, ⟨by (try simp only [hl8_1]); (with_reducible repeat (first | apply Kd.rA | apply Kd.rN | apply Kd.rD)); exact HO_8.out⟩, ⟨by repeat (first | (with_reducible first | exact HB.out | apply bA | apply bN | apply bD) | exact HB.out)⟩⟩
        case round =>
         clear H';try clear c1
         try clear p1
         try clear q1
         try clear hx1
         try clear p2
         try clear c4
         try clear c5
         try clear p6
         try clear c8
         try clear c11
         try clear c11b0
         try clear p11
         try clear q11
         try clear hx11
         try clear c12
         try clear c12b0
         try clear c13
         try clear c13b0
         try clear hx115_0
         try clear p115
         try clear p2
         try clear p6
         try clear q115
         obtain ⟨x8_2, x11_2, rfl, HA, HK2, HO_8, HB⟩ := hrel;have hl8_2 := (Kd.R_reads' HO_8.out).1;rw [hl8_2] at HO_8;(try simp only [hl8_2])
         cases gk with
         | zero => exact absurd HA.out (by simp [r4divides.l1])
         | succ k2 =>
          have H := HA.out;clear HA;simp only [r4divides.l1] at H;by_cases c14 : x11_2 < (l0.length : Int)
          ·rw [if_pos c14] at H;have c14b0 : decide (x11_2 < (l0.length : Int)) = true := decide_eq_true c14;(try (have c14b0h := c14b0; rw [hl8_1] at c14b0h))
           (try (have c14b0h := c14b0; rw [hl8_2] at c14b0h))
           clear c14;obtain ⟨ji15, hji15⟩ : ∃ j_ : Int, (wrap64 ((wrap64 (x9_1 - (l0.length : Int))) + x11_2)) = j_ := ⟨_, rfl⟩;replace H : (if 0 ≤ (ji15) then (if (ji15) < (x8_2.length : Int) then (if 0 ≤ x11_2 then (if x11_2 < (l0.length : Int) then (if a2 = 0 then (none) else (r4divides.l1 k2 l0 a2 (l0.length : Int) (x8_2.set ((ji15) : Int).toNat (Int.tmod (wrap64 ((rd x8_2 (ji15)) + (wrap64 ((wrap64 (a2 - (rd x8_1 x9_1))) * (rd l0 x11_2))))) a2)) x9_1 (rd x8_1 x9_1) (wrap64 (x11_2 + 1)))) else (none)) else (none)) else (none)) else (none)) = some r := by first | (rw [hji15] at H; exact H) | (simp only [hji15] at H ⊢; exact H)
           have hji15w : (IntKind.i64.wrap ((wrap64 (x9_1 - (l0.length : Int))) + x11_2)) = ji15 := (i64_w _).trans hji15;by_cases c16 : 0 ≤ (ji15)
           ·rw [if_pos c16] at H;have c16b0 : decide (0 ≤ (ji15)) = true := decide_eq_true c16;clear c16;by_cases c17 : (ji15) < (x8_2.length : Int)
            ·rw [if_pos c17] at H;have c17b0 : decide ((ji15) < (x8_2.length : Int)) = true := decide_eq_true c17;(try (have c17b0h := c17b0; rw [hl8_1] at c17b0h))
             (try (have c17b0h := c17b0; rw [hl8_2] at c17b0h))
             clear c17;by_cases c18 : 0 ≤ x11_2
             ·rw [if_pos c18] at H;have c18b0 : decide (0 ≤ x11_2) = true := decide_eq_true c18;clear c18;by_cases c19 : x11_2 < (l0.length : Int)
              ·rw [if_pos c19] at H;have c19b0 : decide (x11_2 < (l0.length : Int)) = true := decide_eq_true c19;(try (have c19b0h := c19b0; rw [hl8_1] at c19b0h))
               (try (have c19b0h := c19b0; rw [hl8_2] at c19b0h))
               clear c19;by_cases c20 : a2 = 0
               ·rw [if_pos c20] at H;exact absurd H (by simp)
               rw [if_neg c20] at H;have c20b0 : (a2 == 0) = false := beq_eq_false_iff_ne.mpr c20;have c20b1 : (a2 != 0) = true := bne_iff_ne.mpr c20;obtain ⟨y118, hy118⟩ : ∃ y_ : List Int, y_ = (x8_2.set ((ji15) : Int).toNat (Int.tmod (wrap64 ((rd x8_2 (ji15)) + (wrap64 ((wrap64 (a2 - (rd x8_1 x9_1))) * (rd l0 x11_2))))) a2)) := ⟨_, rfl⟩;replace H : (r4divides.l1 k2 l0 a2 (l0.length : Int) y118 x9_1 (rd x8_1 x9_1) (wrap64 (x11_2 + 1))) = some r := by first | (rw [hy118]; with_reducible exact H) | (have H2_ := (Option.bind_some _ _).symm.trans H; rw [hy118]; with_reducible exact H2_) | (have H2_ := (Option.bind_some _ _).symm.trans H; with_reducible exact H2_) | with_reducible exact H | (rw [hy118]; exact H) | exact H
               have Ny118 := Q9a.mk hy118;clear hy118;have H' := Q9a.mk H;clear H;try go_wp2
               have n0_ := Q9a.mk (Kd.rD HO_8.out);have n1_ := Q9a.mk (bD HB.out);clear HO_8;clear HB;have HO_8 := n0_;have HB := n1_;clear n0_ n1_;have p116 : 0 ≤ ((ji15) : Int) := of_decide_eq_true (by first | (with_reducible assumption) | assumption);have q116 : (ji15) < (x8_2.length : Int) := of_decide_eq_true (by first | (with_reducible assumption) | assumption);obtain ⟨ad116, e116, hx116_0⟩ := Kd.at_int (Kd.R_reads' HO_8.out).2.2 (ji15) p116 q116;obtain rfl : (⟨go115, 0, none⟩ : Addr) = ad116 := (by injection e116);(first | simp only [add_plain] at hx116_0 | simp only [add_at] at hx116_0 | simp only [Addr.add, Nat.zero_add] at hx116_0 | skip)
               replace p116 := eq_true p116;replace q116 := eq_true q116;have p117 : 0 ≤ (x11_2 : Int) := of_decide_eq_true (by first | (with_reducible assumption) | assumption);have q117 : x11_2 < (l0.length : Int) := of_decide_eq_true (by first | (with_reducible assumption) | assumption);obtain ⟨ad117, e117, hx117_0⟩ := Kd.at_int HR0.out x11_2 p117 q117;have hw117_0 := hx117_0
               cases e117
               replace hx117_0 := (HB.out.cell (World.block_lt_of_cell? w _ hx117_0)).trans hx117_0;replace p117 := eq_true p117;replace q117 := eq_true q117;have p21 : 0 ≤ ((ji15) : Int) := of_decide_eq_true (by first | (with_reducible assumption) | assumption);have q21 : ((ji15) : Int) < ((x8_2.length : Int) : Int) := of_decide_eq_true (by first | (with_reducible assumption) | assumption);obtain ⟨hx21_0, hf21_0⟩ := Kd.R_celln 0 HO_8.out ((ji15) : Int) p21 q21;replace p21 := eq_true p21;replace q21 := eq_true q21;have HP23 := Kd.R_putn HO_8.out ((ji15) : Int) (Int.tmod (wrap64 ((rd x8_2 (ji15)) + (wrap64 ((wrap64 (a2 - (rd x8_1 x9_1))) * (rd l0 x11_2))))) a2);rw [← Ny118.out] at HP23;have HQ23 := Q9a.mk HP23;clear HP23;refine start_ (n := 27) (S := fun w' => w'.cell? ⟨go115, ((ji15)).toNat, none⟩ = some (.int .i64 (rd x8_2 (ji15))) ∧ w'.cell? (ad117.add (x11_2).toNat) = some (.int .i64 (rd l0 x11_2))) (ds := [26]) #[fB,fB,fB,fB,fB,fB,fB,fB,fB,fB,fB,fB,fB,fB,fB,fB,fB,fB,fB,fB,fB,fB,fB,fB,fB,fB,fB] (by kernel_rfl) rfl rfl ⟨hx116_0, ((HB.out.cell (World.block_lt_of_cell? w _ hw117_0)).trans hw117_0)⟩ (fun hHeld => ?_); refine with_tabW r4divides.tab11 r4divides.bits11 (fun HT_ HW_ => ?_);generalize wr.drew = w22 at HO_8 HB HQ23 hf21_0 hx116_0 hx117_0 hx21_0 hHeld ⊢;refine pQ 0 38 rfl (any_of HT_.out (by kernel_rfl)) ?_;refine pQ 1 39 rfl (any_of HT_.out (by kernel_rfl)) ?_;refine pQ 2 40 rfl (any_of HT_.out (by kernel_rfl)) ?_;refine pQ 3 41 rfl (any_of HT_.out (by kernel_rfl)) ?_;refine pQ 4 42 rfl (any_of HT_.out (by kernel_rfl)) ?_;refine pQ 5 43 rfl (any_of HT_.out (by kernel_rfl)) ?_;refine pQ 6 44 rfl (any_of HT_.out (by kernel_rfl)) ?_;refine pQ 7 45 rfl (any_of HT_.out (by kernel_rfl)) ?_;refine pQ 8 46 rfl (any_of HT_.out (by kernel_rfl)) ?_;refine pQ 9 47 rfl (any_of HT_.out (by kernel_rfl)) ?_;refine pQ 10 48 rfl (any_of HT_.out (by kernel_rfl)) ?_;refine pQ 11 49 rfl (any_of HT_.out (by kernel_rfl)) ?_;refine pQ 12 50 rfl (any_of HT_.out (by kernel_rfl)) ?_;refine pQ 14 52 rfl (any_of HT_.out (by kernel_rfl)) ?_;refine pQ 15 53 rfl (any_of HT_.out (by kernel_rfl)) ?_;refine pQ 16 54 rfl (any_of HT_.out (by kernel_rfl)) ?_;refine pQ 17 55 rfl (any_of HT_.out (by kernel_rfl)) ?_;refine pQ 18 56 rfl (any_of HT_.out (by kernel_rfl)) ?_;refine pQ 19 57 rfl (any_of HT_.out (by kernel_rfl)) ?_;refine pQ 23 61 rfl (any_of HT_.out (by kernel_rfl)) ?_;refine take_ (i := 13) (N := some 51) (v := ?_) (a' := ?_) #[tB,tB,tB,tB,tB,tB,tB,tB,tB,tB,tB,tB,tB,tB,tB,tB,tB,tB,tB,tB,fB,fB,fB,tB,fB,fB,fB] rfl rfl (take_ofW HT_.out HW_.out (by kernel_rfl)) (fun _ _ _ h => h) (Or.inl ⟨by rfl, ?_⟩) hHeld ?_ ?_;rotate_left
               ·rintro w' ⟨s0, s1⟩;go_simp;with_reducible rfl
               rotate_left
               ·simp only [Act.put, sz1, sz2, sz3, i64_w, i32_w];rfl
               refine take_ (i := 20) (N := some 58) (v := ?_) (a' := ?_) #[tB,tB,tB,tB,tB,tB,tB,tB,tB,tB,tB,tB,tB,tB,tB,tB,tB,tB,tB,tB,tB,fB,fB,tB,fB,fB,fB] rfl rfl (take_ofW HT_.out HW_.out (by kernel_rfl)) (fun _ _ _ h => h) (Or.inl ⟨by rfl, ?_⟩) hHeld ?_ ?_;rotate_left
               ·rintro w' ⟨s0, s1⟩;go_simp;with_reducible rfl
               rotate_left
               ·simp only [Act.put, sz1, sz2, sz3, i64_w, i32_w];rfl
               refine pQ 21 59 rfl (any_of HT_.out (by kernel_rfl)) ?_;refine pQ 22 60 rfl (any_of HT_.out (by kernel_rfl)) ?_;refine pQ 24 62 rfl (any_of HT_.out (by kernel_rfl)) ?_;refine pQ 25 63 rfl (any_of HT_.out (by kernel_rfl)) ?_;refine last_ (i := 26) (N := none) #[tB,tB,tB,tB,tB,tB,tB,tB,tB,tB,tB,tB,tB,tB,tB,tB,tB,tB,tB,tB,tB,tB,tB,tB,tB,tB,tB] rfl rfl (one_of HT_.out (by kernel_rfl)) (by decide) (fun K hK => ?_);refine skip_ (w1 := ?_) (by rfl) rfl ?_ ?_;rotate_left
               ·go_simp;rfl
               refine hK.out _ _ ?_;clear hK K;refine done_ (done_of HT_.out (by kernel_rfl)) ?_;try go_wp2
               (try simp only [← hl8_2])
               go_roundg k2
               case measure => have := HK1.out; have := HK2.out; omega
               case rel => exact ⟨(y118), (wrap64 (x11_2 + 1)), (by first | rfl | (simp; done) | (simp [*]; done)), H', ⟨by have := HK1.out; have := HK2.out; omega⟩, ⟨by (try simp only [hl8_1]); (try simp only [hl8_2]); (with_reducible repeat (first | apply Kd.rA | apply Kd.rN | apply Kd.rD)); exact HQ23.out⟩, ⟨by repeat (first | (with_reducible first | exact HB.out | apply bA | apply bN | apply bD | refine bS ?_ GB115.out) | exact HB.out)⟩⟩
              rw [if_neg c19] at H;exact absurd H (by simp)
             rw [if_neg c18] at H;exact absurd H (by simp)
            rw [if_neg c17] at H;exact absurd H (by simp)
           rw [if_neg c16] at H;exact absurd H (by simp)
          rw [if_neg c14] at H;have c14b0 : decide (x11_2 < (l0.length : Int)) = false := decide_eq_false c14;(try (have c14b0h := c14b0; rw [hl8_1] at c14b0h))
          (try (have c14b0h := c14b0; rw [hl8_2] at c14b0h))
          clear c14;by_cases c24 : 0 ≤ x9_1
          ·rw [if_pos c24] at H;have c24b0 : decide (0 ≤ x9_1) = true := decide_eq_true c24;clear c24;by_cases c25 : x9_1 < (x8_2.length : Int)
           ·rw [if_pos c25] at H;have c25b0 : decide (x9_1 < (x8_2.length : Int)) = true := decide_eq_true c25;(try (have c25b0h := c25b0; rw [hl8_1] at c25b0h))
            (try (have c25b0h := c25b0; rw [hl8_2] at c25b0h))
            clear c25;obtain ⟨y119, hy119⟩ : ∃ y_ : List Int, y_ = (x8_2.set (x9_1 : Int).toNat 0) := ⟨_, rfl⟩;replace H : (r4divides.l0 k2 l0 a2 (l0.length : Int) y119 (wrap64 (x9_1 - 1))) = some r := by first | (rw [hy119]; with_reducible exact H) | (have H2_ := (Option.bind_some _ _).symm.trans H; rw [hy119]; with_reducible exact H2_) | (have H2_ := (Option.bind_some _ _).symm.trans H; with_reducible exact H2_) | with_reducible exact H | (rw [hy119]; exact H) | exact H
            have Ny119 := Q9a.mk hy119;clear hy119;have H' := Q9a.mk H;clear H;have p26 : 0 ≤ (x9_1 : Int) := of_decide_eq_true (by first | (with_reducible assumption) | assumption);have q26 : (x9_1 : Int) < ((x8_2.length : Int) : Int) := of_decide_eq_true (by first | (with_reducible assumption) | assumption);obtain ⟨hx26_0, hf26_0⟩ := Kd.R_celln 0 HO_8.out (x9_1 : Int) p26 q26;replace p26 := eq_true p26;replace q26 := eq_true q26;have HP27 := Kd.R_putg HO_8.out (x9_1 : Int) 0;go_wp2_with (first | ((with_reducible refine gate_store (t := 3) (p := 66) rfl ?_); refine store_event (t := 3) (p := 66) (v := ?vo_w28) (w1 := (wr.setCell ⟨go115, (x9_1 : Int).toNat, none⟩ (.int .i64 0))) ?hg ?ho ?hn ?hr ?_; (case ho => rfl); (case hg => rfl); (case hn => rfl); (case hr => first | (go_simp; done) | (go_simp; rfl)); intro w28 hw; have hg : wr.grownBy w28 (some go115) := (by rw [hw]; exact HP27.2); have hp_ : Kd.R (Kd.int .i64) 3 w28 w.heap.size (fun _ => True) (.slice (some ⟨go115, 0, none⟩) x8_2.length co10) y119 := (by rw [hw, Ny119.out]; exact HP27.1); clear HP27; have n0_ := Q9a.mk (hp_); have n1_ := Q9a.mk ((by rw [hw]; exact bS (HB.out) GB115.out : Below w.heap.size w w28)); clear HO_8; clear HB; have HO_8 := n0_; have HB := n1_; clear n0_ n1_; clear hg hw hp_))
            (try simp only [← hl8_1, ← hl8_2])
            go_roundg k2
            case measure => have := HK1.out; have := HK2.out; omega
            case rel => exact ⟨(y119), (wrap64 (x9_1 - 1)), (by first | rfl | (simp; done) | (simp [*]; done)), H', ⟨by have := HK1.out; have := HK2.out; omega⟩, ⟨by (try simp only [hl8_1]); (try simp only [hl8_2]); (with_reducible repeat (first | apply Kd.rA | apply Kd.rN | apply Kd.rD)); exact HO_8.out⟩, ⟨by repeat (first | (with_reducible first | exact HB.out | apply bA | apply bN | apply bD) | exact HB.out)⟩⟩
           rw [if_neg c25] at H;exact absurd H (by simp)
          rw [if_neg c24] at H;exact absurd H (by simp)
       rw [if_neg c13] at H;exact absurd H (by simp)
      rw [if_neg c12] at H;exact absurd H (by simp)
     rw [if_neg c11] at H;have c11b0 : decide ((l0.length : Int) ≤ x9_1) = false := decide_eq_false c11;(try (have c11b0h := c11b0; rw [hl8_1] at c11b0h))
     clear c11;have H' := Q9a.mk H;clear H;go_wp2
     go_loopg [12] k1 (fun kq v12 w' => ∃ (x12_2 : Int), v12 = .int .i64 x12_2 ∧ Q9a (r4divides.l2 kq x8_1 x12_2 = some r) ∧ Q9a (kq ≤ k1) ∧ Q9a (Kd.R (Kd.int .i64) 3 w' w.heap.size (fun _ => True) (.slice Ao10 x8_1.length co10) x8_1) ∧ Q9a (Below w.heap.size w w'))
     case atStart => exact ⟨(0), (by first | rfl | (simp; done) | (simp [*]; done)), H', ⟨Nat.le_refl _⟩, ⟨by (try simp only [hl8_1]); (with_reducible repeat (first | apply Kd.rA | apply Kd.rN | apply Kd.rD)); exact HO_8.out⟩, ⟨by repeat (first | (with_reducible first | exact HB.out | apply bA | apply bN | apply bD) | exact HB.out)⟩⟩
     case round =>
      clear H';try clear c1
      try clear p1
      try clear q1
      try clear hx1
      try clear c2
      try clear p2
      try clear q2
      try clear hx2
      try clear c4
      try clear c5
      try clear p6
      try clear c8
      try clear c11
      try clear c11b0
      try clear p11
      try clear q11
      try clear hx11
      try clear c12
      try clear c12b0
      try clear c13
      try clear c13b0
      try clear c14
      try clear c14b0
      try clear c16
      try clear c16b0
      try clear c17
      try clear c17b0
      try clear c18
      try clear c18b0
      try clear c19
      try clear c19b0
      try clear c20
      try clear c20b0
      try clear c20b1
      try clear p21
      try clear q21
      try clear hx21
      try clear hf21
      try clear c24
      try clear c24b0
      try clear c25
      try clear c25b0
      try clear p26
      try clear q26
      try clear hx26
      try clear hf26
      try clear hx115_0
      try clear hx116_0
      try clear hx117_0
      try clear hx21_0
      try clear hx26_0
      try clear p1
      try clear p11
      try clear p115
      try clear p116
      try clear p117
      try clear p2
      try clear p21
      try clear p26
      try clear p6
      try clear q1
      try clear q11
      try clear q115
      try clear q116
      try clear q117
      try clear q21
      try clear q26
      obtain ⟨x12_2, rfl, HA, HK2, HO_8, HB⟩ := hrel
      cases gk with
      | zero => exact absurd HA.out (by simp [r4divides.l2])
      | succ k2 =>
       have H := HA.out;clear HA;simp only [r4divides.l2] at H;by_cases c29 : x12_2 < (x8_1.length : Int)
       ·rw [if_pos c29] at H;have c29b0 : decide (x12_2 < (x8_1.length : Int)) = true := decide_eq_true c29;(try (have c29b0h := c29b0; rw [hl8_1] at c29b0h))
        clear c29;by_cases c30 : 0 ≤ x12_2
        ·rw [if_pos c30] at H;have c30b0 : decide (0 ≤ x12_2) = true := decide_eq_true c30;clear c30;by_cases c31 : (rd x8_1 x12_2) = 0
         ·rw [if_pos c31] at H;have c31b0 : ((rd x8_1 x12_2) == 0) = true := beq_iff_eq.mpr c31;have c31b1 : ((rd x8_1 x12_2) != 0) = false := bne_eq_false_iff_eq.mpr c31;clear c31;have H' := Q9a.mk H;clear H;have p120 : 0 ≤ (x12_2 : Int) := of_decide_eq_true (by first | (with_reducible assumption) | assumption);have q120 : x12_2 < (x8_1.length : Int) := of_decide_eq_true (by first | (with_reducible assumption) | assumption);obtain ⟨ad120, e120, hx120_0⟩ := Kd.at_int (Kd.R_reads' HO_8.out).2.2 x12_2 p120 q120
          cases e120
          obtain ⟨go120, co120, eo120, gb120, gl120, cl120, HGf120⟩ := Kd.R_form HO_8.out (by omega);(injection eo120 with ea_ en_ ec_; injection ea_ with ea_; subst ea_; subst ec_; clear en_)
          have GB120 := Q9a.mk gb120;have GG120 := Q9a.mk HGf120;clear gb120 gl120 HGf120;(first | simp only [add_plain] at hx120_0 | skip)
          replace p120 := eq_true p120;replace q120 := eq_true q120;go_wp2
          go_roundg k2
          case measure => have := HK1.out; have := HK2.out; omega
          case rel => exact ⟨(wrap64 (x12_2 + 1)), (by first | rfl | (simp; done) | (simp [*]; done)), H', ⟨by have := HK1.out; have := HK2.out; omega⟩, ⟨by (try simp only [hl8_1]); (with_reducible repeat (first | apply Kd.rA | apply Kd.rN | apply Kd.rD)); exact HO_8.out⟩, ⟨by repeat (first | (with_reducible first | exact HB.out | apply bA | apply bN | apply bD) | exact HB.out)⟩⟩
         rw [if_neg c31] at H;have c31b0 : ((rd x8_1 x12_2) == 0) = false := beq_eq_false_iff_ne.mpr c31;have c31b1 : ((rd x8_1 x12_2) != 0) = true := bne_iff_ne.mpr c31;obtain rfl := Option.some.inj H;have p120 : 0 ≤ (x12_2 : Int) := of_decide_eq_true (by first | (with_reducible assumption) | assumption);have q120 : x12_2 < (x8_1.length : Int) := of_decide_eq_true (by first | (with_reducible assumption) | assumption);obtain ⟨ad120, e120, hx120_0⟩ := Kd.at_int (Kd.R_reads' HO_8.out).2.2 x12_2 p120 q120
         cases e120
         obtain ⟨go120, co120, eo120, gb120, gl120, cl120, HGf120⟩ := Kd.R_form HO_8.out (by omega);(injection eo120 with ea_ en_ ec_; injection ea_ with ea_; subst ea_; subst ec_; clear en_)
         have GB120 := Q9a.mk gb120;have GG120 := Q9a.mk HGf120;clear gb120 gl120 HGf120;(first | simp only [add_plain] at hx120_0 | skip)
         replace p120 := eq_true p120;replace q120 := eq_true q120;go_wp2
         go_ret
         exact ⟨by first | rfl | (simp [*, eN, eS] <;> rfl), by repeat (first | (with_reducible first | exact HB.out | apply bA | apply bN | apply bD) | exact HB.out)⟩
        rw [if_neg c30] at H;exact absurd H (by simp)
       rw [if_neg c29] at H;have c29b0 : decide (x12_2 < (x8_1.length : Int)) = false := decide_eq_false c29;(try (have c29b0h := c29b0; rw [hl8_1] at c29b0h))
       clear c29;obtain rfl := Option.some.inj H;go_wp2
       go_ret
       exact ⟨by first | rfl | (simp [*, eN, eS] <;> rfl), by repeat (first | (with_reducible first | exact HB.out | apply bA | apply bN | apply bD) | exact HB.out)⟩
  rw [if_neg c5] at H;exact absurd H (by simp)
 rw [if_neg c4] at H;exact absurd H (by simp)
mutual
def r4irreducible.l0 : Nat → List Int → Int → Int → Int → Option (Bool)
 | 0, _, _, _, _ => none
 | k + 1, x0, x1, x5, x6 => if (wrap64 (2 * x6)) ≤ (x0.length : Int) then (r4irreducible.l1 k x0 x1 (wrap64 (x5 * x1)) x6 0) else (some true)
def r4irreducible.l1 : Nat → List Int → Int → Int → Int → Int → Option (Bool)
 | 0, _, _, _, _, _ => none
 | k + 1, x0, x1, x5, x6, x7 => if x7 < x5 then ((r4digits.f k x7 x1 x6).bind fun t121 => ((r4divides.f k t121 x0 x1).bind fun t124 => (if t124 = true then (some false) else (r4irreducible.l1 k x0 x1 x5 x6 (wrap64 (x7 + 1)))))) else (r4irreducible.l0 k x0 x1 x5 (wrap64 (x6 + 1)))
end
def r4irreducible.f (k : Nat) (l0 : List Int) (a1 : Int) : Option (Bool) := r4irreducible.l0 k l0 a1 1 1
theorem r4irreducible.calls (k : Nat) (A0 : Option Addr) (c0 : Nat) (l0 : List Int) (a1 : Int) (r : Bool) (w : World) (hr0 : Kd.C (Kd.int .i64) w A0 l0.length l0) (hc0 : l0.length ≤ c0) (h : r4irreducible.f k l0 a1 = some r) :
  Calls Try.prog 61 #[.slice A0 l0.length c0, .int .i64 a1] w fun e w' => e = .returned (.bool r) ∧ Below w.heap.size w w' := by
 have HR0 := Q9a.mk hr0;have HC0 := Q9a.mk hc0;clear hr0 hc0;have HB := Q9a.mk (Below.refl w.heap.size w);have H : (r4irreducible.l0 k l0 a1 1 1) = some r := h;clear h;have H' := Q9a.mk H;clear H;go_enter Try.func61, Try.ntmps61
 go_wp2
 go_loopg [5, 6] k (fun kq v5 v6 w' => ∃ (x5_1 : Int) (x6_1 : Int), v5 = .int .i64 x5_1 ∧ v6 = .int .i64 x6_1 ∧ Q9a (r4irreducible.l0 kq l0 a1 x5_1 x6_1 = some r) ∧ Q9a (kq ≤ k) ∧ Q9a (Below w.heap.size w w'))
 case atStart => exact ⟨(1), (1), (by first | rfl | (simp; done) | (simp [*]; done)), (by first | rfl | (simp; done) | (simp [*]; done)), H', ⟨Nat.le_refl _⟩, ⟨by repeat (first | (with_reducible first | exact HB.out | apply bA | apply bN | apply bD) | exact HB.out)⟩⟩
 case round =>
  clear H';try clear p2
  obtain ⟨x5_1, x6_1, rfl, rfl, HA, HK1, HB⟩ := hrel
  cases gk with
  | zero => exact absurd HA.out (by simp [r4irreducible.l0])
  | succ k1 =>
   have H := HA.out;clear HA;simp only [r4irreducible.l0] at H;by_cases c3 : (wrap64 (2 * x6_1)) ≤ (l0.length : Int)
   ·rw [if_pos c3] at H;have c3b0 : decide ((wrap64 (2 * x6_1)) ≤ (l0.length : Int)) = true := decide_eq_true c3;clear c3;have H' := Q9a.mk H;clear H;go_wp2
    go_loopg [7] k1 (fun kq v7 w' => ∃ (x7_2 : Int), v7 = .int .i64 x7_2 ∧ Q9a (r4irreducible.l1 kq l0 a1 (wrap64 (x5_1 * a1)) x6_1 x7_2 = some r) ∧ Q9a (kq ≤ k1) ∧ Q9a (Below w.heap.size w w'))
    case atStart => exact ⟨(0), (by first | rfl | (simp; done) | (simp [*]; done)), H', ⟨Nat.le_refl _⟩, ⟨by repeat (first | (with_reducible first | exact HB.out | apply bA | apply bN | apply bD) | exact HB.out)⟩⟩
    case round =>
     clear H';try clear p2
     try clear c3
     try clear c3b0
     try clear p2
     obtain ⟨x7_2, rfl, HA, HK2, HB⟩ := hrel
     cases gk with
     | zero => exact absurd HA.out (by simp [r4irreducible.l1])
     | succ k2 =>
      have H := HA.out;clear HA;simp only [r4irreducible.l1] at H;by_cases c4 : x7_2 < (wrap64 (x5_1 * a1))
      ·rw [if_pos c4] at H;have c4b0 : decide (x7_2 < (wrap64 (x5_1 * a1))) = true := decide_eq_true c4;clear c4;replace H := Option.bind_eq_some_iff.mp H;obtain ⟨t121, A50, H⟩ := H;replace H : ((r4divides.f k2 t121 l0 a1).bind fun t124 => (if t124 = true then (some false) else (r4irreducible.l1 k2 l0 a1 (wrap64 (x5_1 * a1)) x6_1 (wrap64 (x7_2 + 1))))) = some r := H;have A5 := Q9a.mk A50;clear A50;replace H := Option.bind_eq_some_iff.mp H;obtain ⟨t124, A60, H⟩ := H;replace H : (if t124 = true then (some false) else (r4irreducible.l1 k2 l0 a1 (wrap64 (x5_1 * a1)) x6_1 (wrap64 (x7_2 + 1)))) = some r := H;have A6 := Q9a.mk A60;clear A60;by_cases c7 : t124 = true
       ·subst c7;have H1 : (some false) = some r := by rw [if_pos rfl] at H; exact H
        clear H;have H := H1;clear H1;obtain rfl := Option.some.inj H;go_wp2_with (first | ((with_reducible refine gC (f := 72) rfl ?_); refine gL (some 26) rfl rfl Try.func72 (by kernel_rfl) rfl #[.int .i64 x7_2, .int .i64 a1, .int .i64 x6_1] rfl (by (try simp only [sm1, sm2, sm3]); first | done | rfl | (simp only [sm4, sm5]; rfl)) ?_; (with_reducible refine (r4digits.calls k2 x7_2 a1 x6_1 t121 _ A5.out).mono ?_); rintro e w8 ⟨v122, rfl, ho0, hb⟩; refine ⟨_, rfl, ?_⟩; have n0_ := Q9a.mk (Kd.rL ho0 (bZ (by repeat (first | (with_reducible first | exact HB.out | apply bA | apply bN | apply bD) | exact HB.out)))); have n1_ := Q9a.mk (bP (by repeat (first | (with_reducible first | exact HB.out | apply bA | apply bN | apply bD) | exact HB.out)) hb); clear HB; have HO123 := n0_; have HB := n1_; clear n0_ n1_; (try clear ho0); obtain ⟨Ao9, co9, eo9⟩ := Kd.R_slice HO123.out; subst eo9) | ((with_reducible refine gC (f := 88) rfl ?_); refine gL (some 29) rfl rfl Try.func88 (by kernel_rfl) rfl #[.slice Ao9 t121.length co9, .slice A0 l0.length c0, .int .i64 a1] rfl (by (try simp only [sm1, sm2, sm3]); first | done | rfl | (simp only [sm4, sm5]; rfl)) ?_; (with_reducible refine (r4divides.calls k2 _ _ t121 _ _ l0 a1 true _ ?side1 ?side2 ?side3 ?side4 A6.out).mono ?_); (case side1 => repeat (first | exact (Kd.R_reads' HO123.out).2.2 | with_reducible first | refine Kd.cA ?_ _ | refine Kd.cN ?_ _ | refine Kd.cD ?_)); (case side2 => exact (Kd.R_reads' HO123.out).2.1); (case side3 => repeat (first | exact (Kd.cB HR0.out HB.out) | with_reducible first | refine Kd.cA ?_ _ | refine Kd.cN ?_ _ | refine Kd.cD ?_)); (case side4 => exact HC0.out); rintro e w10 ⟨rfl, hb⟩; refine ⟨_, rfl, ?_⟩; have n0_ := Q9a.mk (Kd.R_below (by (with_reducible repeat (first | apply Kd.rA | apply Kd.rN | apply Kd.rD)); exact HO123.out) hb); have n1_ := Q9a.mk (bP (by repeat (first | (with_reducible first | exact HB.out | apply bA | apply bN | apply bD) | exact HB.out)) hb); clear HO123; clear HB; have HO123 := n0_; have HB := n1_; clear n0_ n1_; (try clear hb); (try clear hb2); (try clear hk); (try clear hi)))
        go_ret
        exact ⟨by first | rfl | (simp [*, eN, eS] <;> rfl), by repeat (first | (with_reducible first | exact HB.out | apply bA | apply bN | apply bD) | exact HB.out)⟩
       replace c7 := Bool.eq_false_iff.mpr c7;subst c7;have H1 : (r4irreducible.l1 k2 l0 a1 (wrap64 (x5_1 * a1)) x6_1 (wrap64 (x7_2 + 1))) = some r := by rw [if_neg (show ¬ (false = true) by decide)] at H; exact H
       clear H;have H := H1;clear H1;have H' := Q9a.mk H;clear H;go_wp2_with (first | ((with_reducible refine gC (f := 72) rfl ?_); refine gL (some 26) rfl rfl Try.func72 (by kernel_rfl) rfl #[.int .i64 x7_2, .int .i64 a1, .int .i64 x6_1] rfl (by (try simp only [sm1, sm2, sm3]); first | done | rfl | (simp only [sm4, sm5]; rfl)) ?_; (with_reducible refine (r4digits.calls k2 x7_2 a1 x6_1 t121 _ A5.out).mono ?_); rintro e w11 ⟨v122, rfl, ho0, hb⟩; refine ⟨_, rfl, ?_⟩; have n0_ := Q9a.mk (Kd.rL ho0 (bZ (by repeat (first | (with_reducible first | exact HB.out | apply bA | apply bN | apply bD) | exact HB.out)))); have n1_ := Q9a.mk (bP (by repeat (first | (with_reducible first | exact HB.out | apply bA | apply bN | apply bD) | exact HB.out)) hb); clear HB; have HO123 := n0_; have HB := n1_; clear n0_ n1_; (try clear ho0); obtain ⟨Ao12, co12, eo12⟩ := Kd.R_slice HO123.out; subst eo12) | ((with_reducible refine gC (f := 88) rfl ?_); refine gL (some 29) rfl rfl Try.func88 (by kernel_rfl) rfl #[.slice Ao12 t121.length co12, .slice A0 l0.length c0, .int .i64 a1] rfl (by (try simp only [sm1, sm2, sm3]); first | done | rfl | (simp only [sm4, sm5]; rfl)) ?_; (with_reducible refine (r4divides.calls k2 _ _ t121 _ _ l0 a1 false _ ?side1 ?side2 ?side3 ?side4 A6.out).mono ?_); (case side1 => repeat (first | exact (Kd.R_reads' HO123.out).2.2 | with_reducible first | refine Kd.cA ?_ _ | refine Kd.cN ?_ _ | refine Kd.cD ?_)); (case side2 => exact (Kd.R_reads' HO123.out).2.1); (case side3 => repeat (first | exact (Kd.cB HR0.out HB.out) | with_reducible first | refine Kd.cA ?_ _ | refine Kd.cN ?_ _ | refine Kd.cD ?_)); (case side4 => exact HC0.out); rintro e w13 ⟨rfl, hb⟩; refine ⟨_, rfl, ?_⟩; have n0_ := Q9a.mk (Kd.R_below (by (with_reducible repeat (first | apply Kd.rA | apply Kd.rN | apply Kd.rD)); exact HO123.out) hb); have n1_ := Q9a.mk (bP (by repeat (first | (with_reducible first | exact HB.out | apply bA | apply bN | apply bD) | exact HB.out)) hb); clear HO123; clear HB; have HO123 := n0_; have HB := n1_; clear n0_ n1_; (try clear hb); (try clear hb2); (try clear hk); (try clear hi)))
       go_roundg k2
       case measure => have := HK1.out; have := HK2.out; omega
       case rel => exact ⟨(wrap64 (x7_2 + 1)), (by first | rfl | (simp; done) | (simp [*]; done)), H', ⟨by have := HK1.out; have := HK2.out; omega⟩, ⟨by repeat (first | (with_reducible first | exact HB.out | apply bA | apply bN | apply bD) | exact HB.out)⟩⟩
      rw [if_neg c4] at H;have c4b0 : decide (x7_2 < (wrap64 (x5_1 * a1))) = false := decide_eq_false c4;clear c4;have H' := Q9a.mk H;clear H;go_wp2
      go_roundg k2
      case measure => have := HK1.out; have := HK2.out; omega
      case rel => exact ⟨((wrap64 (x5_1 * a1))), (wrap64 (x6_1 + 1)), (by first | rfl | (simp; done) | (simp [*]; done)), (by first | rfl | (simp; done) | (simp [*]; done)), H', ⟨by have := HK1.out; have := HK2.out; omega⟩, ⟨by repeat (first | (with_reducible first | exact HB.out | apply bA | apply bN | apply bD) | exact HB.out)⟩⟩
   rw [if_neg c3] at H;have c3b0 : decide ((wrap64 (2 * x6_1)) ≤ (l0.length : Int)) = false := decide_eq_false c3;clear c3;obtain rfl := Option.some.inj H;go_wp2
   go_ret
   exact ⟨by first | rfl | (simp [*, eN, eS] <;> rfl), by repeat (first | (with_reducible first | exact HB.out | apply bA | apply bN | apply bD) | exact HB.out)⟩
end
end Go.Proofs.Ytlbddjojhcgpiaa.P
end
-- Pa3
section
namespace Go.Proofs.Ytlbddjojhcgpiaa.P
noncomputable section
open Go.RowKit Go.Proofs.Ytlbddjojhcgpiaa.Hand Go.Proofs.YtlbddjojhcgpiaaW.PrintWords Go.Proofs.YtlbddjojhcgpiaaW.PrintLast Go.Proofs.YtlbddjojhcgpiaaW.PrintMore
set_option linter.unusedVariables false
set_option linter.unusedSimpArgs false
mutual
def r4Check.j0 : Nat → Bool → Int → Int → List Int → Option (Int)
 | 0, _, _, _, _ => none
 | k + 1, x12, x126000, x126001, x126002 => if x12 = true then (some 1) else (if x126001 = 1 then (if (x126002.length : Int) = 0 then (some 0) else (some 1)) else (if (x126002.length : Int) = x126001 then (r4Check.l0 k 0 x126000 x126001 x126002) else (some 1)))
def r4Check.l0 : Nat → Int → Int → Int → List Int → Option (Int)
 | 0, _, _, _, _ => none
 | k + 1, x3, x126000, x126001, x126002 => if x3 < x126001 then (if 0 ≤ x3 then (if x3 < (x126002.length : Int) then (if (rd x126002 x3) < 0 then (some 1) else (if (rd x126002 x3) ≥ x126000 then (some 1) else (r4Check.l0 k (wrap64 (x3 + 1)) x126000 x126001 x126002))) else (none)) else (none)) else ((r4irreducible.f k x126002 x126000).bind fun t130 => (if t130 = true then (some 0) else (some 1)))
end
def r4Check.f (k : Nat) (a0_0 : Int) (a0_1 : Int) (l0_2 : List Int) : Option (Int) := (r4Order.f k a0_0 a0_1 l0_2).bind fun t126 => (if t126 = 0 then (r4Check.j0 k true a0_0 a0_1 l0_2) else ((r4prime.f k a0_0).bind fun t127 => (r4Check.j0 k (!t127) a0_0 a0_1 l0_2)))
theorem r4Check.calls (k : Nat) (a0_0 : Int) (a0_1 : Int) (A0_2 : Option Addr) (c0_2 : Nat) (l0_2 : List Int) (r : Int) (w : World) (hr0_2 : Kd.C (Kd.int .i64) w A0_2 l0_2.length l0_2) (hc0_2 : l0_2.length ≤ c0_2) (h : r4Check.f k a0_0 a0_1 l0_2 = some r) :
  Calls Try.prog 27 #[.agg #[.int .i64 a0_0, .int .i64 a0_1, .slice A0_2 l0_2.length c0_2]] w fun e w' => e = .returned (.int .i64 r) ∧ Below w.heap.size w w' := by
 have hu24 := Try.underlying24;have HR0_2 := Q9a.mk hr0_2;have HC0_2 := Q9a.mk hc0_2;clear hr0_2 hc0_2;have HB := Q9a.mk (Below.refl w.heap.size w);have H : ((r4Order.f k a0_0 a0_1 l0_2).bind fun t126 => (if t126 = 0 then (r4Check.j0 k true a0_0 a0_1 l0_2) else ((r4prime.f k a0_0).bind fun t127 => (r4Check.j0 k (!t127) a0_0 a0_1 l0_2)))) = some r := h;clear h;have HC2 := Q9a.mk H;clear H;go_enter Try.func27, Try.ntmps27
 go_upto_region 1 with (first | ((with_reducible refine gD (N := 1) rfl ?_); refine bE ?hg (N := 1) ?hd (cs := #[.int .i64 a0_0, .int .i64 a0_1, .slice A0_2 l0_2.length c0_2]) (t := 24) ?hr ?_; (case hd => rfl); (case hg => rfl); (case hr => first | (go_simp; done) | (go_simp; rfl)); intro gb125 hg w3 hbox hb; have n0_ := Q9a.mk (bP (by repeat (first | (with_reducible first | exact HB.out | apply bA | apply bN | apply bD) | exact HB.out)) hb); have n1_ := Q9a.mk (hbox); have n2_ := Q9a.mk ((by rw [hg]; exact (bZ (by repeat (first | (with_reducible first | exact HB.out | apply bA | apply bN | apply bD) | exact HB.out))) : w.heap.size ≤ gb125)); have n3_ := n2_; clear HB; have HB := n0_; have BK125 := n1_; have GW125 := n2_; have GE125 := n3_; clear n0_ n1_ n2_ n3_; clear hb hbox hg))
 repeat (go_quiet (first | ((with_reducible refine gD (N := 1) rfl ?_); refine bE ?hg (N := 1) ?hd (cs := #[.int .i64 a0_0, .int .i64 a0_1, .slice A0_2 l0_2.length c0_2]) (t := 24) ?hr ?_; (case hd => rfl); (case hg => rfl); (case hr => first | (go_simp; done) | (go_simp; rfl)); intro gb125 hg w3 hbox hb; have n0_ := Q9a.mk (bP (by repeat (first | (with_reducible first | exact HB.out | apply bA | apply bN | apply bD) | exact HB.out)) hb); have n1_ := Q9a.mk (hbox); have n2_ := Q9a.mk ((by rw [hg]; exact (bZ (by repeat (first | (with_reducible first | exact HB.out | apply bA | apply bN | apply bD) | exact HB.out))) : w.heap.size ≤ gb125)); have n3_ := n2_; clear HB; have HB := n0_; have BK125 := n1_; have GW125 := n2_; have GE125 := n3_; clear n0_ n1_ n2_ n3_; clear hb hbox hg)); go_upto_region 1 with (first | ((with_reducible refine gD (N := 1) rfl ?_); refine bE ?hg (N := 1) ?hd (cs := #[.int .i64 a0_0, .int .i64 a0_1, .slice A0_2 l0_2.length c0_2]) (t := 24) ?hr ?_; (case hd => rfl); (case hg => rfl); (case hr => first | (go_simp; done) | (go_simp; rfl)); intro gb125 hg w3 hbox hb; have n0_ := Q9a.mk (bP (by repeat (first | (with_reducible first | exact HB.out | apply bA | apply bN | apply bD) | exact HB.out)) hb); have n1_ := Q9a.mk (hbox); have n2_ := Q9a.mk ((by rw [hg]; exact (bZ (by repeat (first | (with_reducible first | exact HB.out | apply bA | apply bN | apply bD) | exact HB.out))) : w.heap.size ≤ gb125)); have n3_ := n2_; clear HB; have HB := n0_; have BK125 := n1_; have GW125 := n2_; have GE125 := n3_; clear n0_ n1_ n2_ n3_; clear hb hbox hg)))
 (try simp only [Act.put, sz1, sz2, sz3])
 go_cut [12] (fun v12 wc => ∃ (kq : Nat) (x12_1 : Bool), v12 = .bool x12_1 ∧ Q9a (r4Check.j0 kq x12_1 a0_0 a0_1 l0_2 = some r) ∧ Q9a (kq ≤ k) ∧ Q9a (wc.heap[gb125]? = some (.cells #[.int .i64 a0_0, .int .i64 a0_1, (.slice A0_2 l0_2.length c0_2)] 24 (0, 0))) ∧ Q9a (Below w.heap.size w wc))
 case first =>
  have H := HC2.out;clear HC2;replace H := Option.bind_eq_some_iff.mp H;obtain ⟨t126, A40, H⟩ := H;replace H : (if t126 = 0 then (r4Check.j0 k true a0_0 a0_1 l0_2) else ((r4prime.f k a0_0).bind fun t127 => (r4Check.j0 k (!t127) a0_0 a0_1 l0_2))) = some r := H;have A4 := Q9a.mk A40;clear A40;by_cases c5 : t126 = 0
  ·rw [if_pos c5] at H;have c5b0 : (t126 == 0) = true := beq_iff_eq.mpr c5;have c5b1 : (t126 != 0) = false := bne_eq_false_iff_eq.mpr c5;clear c5;(first | rw [c5b0] | (simp only [i64_w, i32_w]; rw [c5b0]) | skip)
   have H' := Q9a.mk H;clear H;have hcz6_0 : w3.cell? ⟨gb125, 0, none⟩ = some (.int .i64 a0_0) := (kC BK125.out 0).trans rfl;have hcz6_1 : w3.cell? ⟨gb125, 1, none⟩ = some (.int .i64 a0_1) := (kC BK125.out 1).trans rfl;have hcz6_2 : w3.cell? ⟨gb125, 2, none⟩ = some (.slice A0_2 l0_2.length c0_2) := (kC BK125.out 2).trans rfl;have hfz6_0 := kF BK125.out 0;have hfz6_1 := kF BK125.out 1;have hfz6_2 := kF BK125.out 2;go_wp2_with (first | (go_at_call 29; (with_reducible refine (r4Order.calls k a0_0 a0_1 _ _ l0_2 t126 _ ?side1 ?side2 A4.out).mono ?_); (case side1 => repeat (first | exact (Kd.cB HR0_2.out HB.out) | with_reducible first | refine Kd.cA ?_ _ | refine Kd.cN ?_ _ | refine Kd.cD ?_)); (case side2 => exact HC0_2.out); rintro e w7 ⟨rfl, hb⟩; have n0_ := Q9a.mk (kB (g := gb125) (o := .cells #[.int .i64 a0_0, .int .i64 a0_1, .slice A0_2 l0_2.length c0_2] 24 (0, 0)) (by (with_reducible repeat (first | refine kN ?_ _ | refine kD ?_ | refine kA ?_ _)); exact BK125.out) hb); have n1_ := Q9a.mk (bP (by repeat (first | (with_reducible first | exact HB.out | apply bA | apply bN | apply bD | refine bS ?_ GE125.out) | exact HB.out)) hb); clear BK125; clear HB; have BK125 := n0_; have HB := n1_; clear n0_ n1_; (try clear hb); (try clear hb2); (try clear hk); (try clear hi)))
   repeat (go_quiet (first | (go_at_call 29; (with_reducible refine (r4Order.calls k a0_0 a0_1 _ _ l0_2 t126 _ ?side1 ?side2 A4.out).mono ?_); (case side1 => repeat (first | exact (Kd.cB HR0_2.out HB.out) | with_reducible first | refine Kd.cA ?_ _ | refine Kd.cN ?_ _ | refine Kd.cD ?_)); (case side2 => exact HC0_2.out); rintro e w7 ⟨rfl, hb⟩; have n0_ := Q9a.mk (kB (g := gb125) (o := .cells #[.int .i64 a0_0, .int .i64 a0_1, .slice A0_2 l0_2.length c0_2] 24 (0, 0)) (by (with_reducible repeat (first | refine kN ?_ _ | refine kD ?_ | refine kA ?_ _)); exact BK125.out) hb); have n1_ := Q9a.mk (bP (by repeat (first | (with_reducible first | exact HB.out | apply bA | apply bN | apply bD | refine bS ?_ GE125.out) | exact HB.out)) hb); clear BK125; clear HB; have BK125 := n0_; have HB := n1_; clear n0_ n1_; (try clear hb); (try clear hb2); (try clear hk); (try clear hi))); try go_wp2_with (first | (go_at_call 29; (with_reducible refine (r4Order.calls k a0_0 a0_1 _ _ l0_2 t126 _ ?side1 ?side2 A4.out).mono ?_); (case side1 => repeat (first | exact (Kd.cB HR0_2.out HB.out) | with_reducible first | refine Kd.cA ?_ _ | refine Kd.cN ?_ _ | refine Kd.cD ?_)); (case side2 => exact HC0_2.out); rintro e w7 ⟨rfl, hb⟩; have n0_ := Q9a.mk (kB (g := gb125) (o := .cells #[.int .i64 a0_0, .int .i64 a0_1, .slice A0_2 l0_2.length c0_2] 24 (0, 0)) (by (with_reducible repeat (first | refine kN ?_ _ | refine kD ?_ | refine kA ?_ _)); exact BK125.out) hb); have n1_ := Q9a.mk (bP (by repeat (first | (with_reducible first | exact HB.out | apply bA | apply bN | apply bD | refine bS ?_ GE125.out) | exact HB.out)) hb); clear BK125; clear HB; have BK125 := n0_; have HB := n1_; clear n0_ n1_; (try clear hb); (try clear hb2); (try clear hk); (try clear hi))))
   go_meet
   case rel => exact ⟨_, (true), (by first | rfl | (simp; done) | (simp [*]; done)), H', ⟨by first | omega | exact Nat.le_refl _⟩, ⟨by (with_reducible repeat (first | refine kN ?_ _ | refine kD ?_ | refine kA ?_ _)); exact BK125.out⟩, ⟨by repeat (first | (with_reducible first | exact HB.out | apply bA | apply bN | apply bD | refine bS ?_ GE125.out) | exact HB.out)⟩⟩
  rw [if_neg c5] at H;have c5b0 : (t126 == 0) = false := beq_eq_false_iff_ne.mpr c5;have c5b1 : (t126 != 0) = true := bne_iff_ne.mpr c5;(first | rw [c5b0] | (simp only [i64_w, i32_w]; rw [c5b0]) | skip)
  replace H := Option.bind_eq_some_iff.mp H;obtain ⟨t127, A80, H⟩ := H;replace H : (r4Check.j0 k (!t127) a0_0 a0_1 l0_2) = some r := H;have A8 := Q9a.mk A80;clear A80;have H' := Q9a.mk H;clear H;have hcz9_0 : w3.cell? ⟨gb125, 0, none⟩ = some (.int .i64 a0_0) := (kC BK125.out 0).trans rfl;have hcz9_1 : w3.cell? ⟨gb125, 1, none⟩ = some (.int .i64 a0_1) := (kC BK125.out 1).trans rfl;have hcz9_2 : w3.cell? ⟨gb125, 2, none⟩ = some (.slice A0_2 l0_2.length c0_2) := (kC BK125.out 2).trans rfl;have hfz9_0 := kF BK125.out 0;have hfz9_1 := kF BK125.out 1;have hfz9_2 := kF BK125.out 2;go_wp2_with (first | (go_at_call 29; (with_reducible refine (r4Order.calls k a0_0 a0_1 _ _ l0_2 t126 _ ?side1 ?side2 A4.out).mono ?_); (case side1 => repeat (first | exact (Kd.cB HR0_2.out HB.out) | with_reducible first | refine Kd.cA ?_ _ | refine Kd.cN ?_ _ | refine Kd.cD ?_)); (case side2 => exact HC0_2.out); rintro e w10 ⟨rfl, hb⟩; have n0_ := Q9a.mk (kB (g := gb125) (o := .cells #[.int .i64 a0_0, .int .i64 a0_1, .slice A0_2 l0_2.length c0_2] 24 (0, 0)) (by (with_reducible repeat (first | refine kN ?_ _ | refine kD ?_ | refine kA ?_ _)); exact BK125.out) hb); have n1_ := Q9a.mk (bP (by repeat (first | (with_reducible first | exact HB.out | apply bA | apply bN | apply bD | refine bS ?_ GE125.out) | exact HB.out)) hb); clear BK125; clear HB; have BK125 := n0_; have HB := n1_; clear n0_ n1_; have hcz11_0 : w10.cell? ⟨gb125, 0, none⟩ = some (.int .i64 a0_0) := (kC BK125.out 0).trans rfl; have hcz11_1 : w10.cell? ⟨gb125, 1, none⟩ = some (.int .i64 a0_1) := (kC BK125.out 1).trans rfl; have hcz11_2 : w10.cell? ⟨gb125, 2, none⟩ = some (.slice A0_2 l0_2.length c0_2) := (kC BK125.out 2).trans rfl; have hfz11_0 := kF BK125.out 0; have hfz11_1 := kF BK125.out 1; have hfz11_2 := kF BK125.out 2) | (go_at_call 60; (with_reducible refine (r4prime.calls k a0_0 t127 _ A8.out).mono ?_); rintro e w' ⟨rfl, ⟨nd, rfl⟩⟩; (try first | exact ⟨rfl, _, World.drewN_drewN _ _ _⟩ | exact ⟨rfl, _, Eq.trans (World.drewN_drewN _ _ _) (congrArg (World.drewN _) (Nat.add_assoc _ _ _))⟩)))
  repeat (go_quiet (first | (go_at_call 29; (with_reducible refine (r4Order.calls k a0_0 a0_1 _ _ l0_2 t126 _ ?side1 ?side2 A4.out).mono ?_); (case side1 => repeat (first | exact (Kd.cB HR0_2.out HB.out) | with_reducible first | refine Kd.cA ?_ _ | refine Kd.cN ?_ _ | refine Kd.cD ?_)); (case side2 => exact HC0_2.out); rintro e w10 ⟨rfl, hb⟩; have n0_ := Q9a.mk (kB (g := gb125) (o := .cells #[.int .i64 a0_0, .int .i64 a0_1, .slice A0_2 l0_2.length c0_2] 24 (0, 0)) (by (with_reducible repeat (first | refine kN ?_ _ | refine kD ?_ | refine kA ?_ _)); exact BK125.out) hb); have n1_ := Q9a.mk (bP (by repeat (first | (with_reducible first | exact HB.out | apply bA | apply bN | apply bD | refine bS ?_ GE125.out) | exact HB.out)) hb); clear BK125; clear HB; have BK125 := n0_; have HB := n1_; clear n0_ n1_; have hcz11_0 : w10.cell? ⟨gb125, 0, none⟩ = some (.int .i64 a0_0) := (kC BK125.out 0).trans rfl; have hcz11_1 : w10.cell? ⟨gb125, 1, none⟩ = some (.int .i64 a0_1) := (kC BK125.out 1).trans rfl; have hcz11_2 : w10.cell? ⟨gb125, 2, none⟩ = some (.slice A0_2 l0_2.length c0_2) := (kC BK125.out 2).trans rfl; have hfz11_0 := kF BK125.out 0; have hfz11_1 := kF BK125.out 1; have hfz11_2 := kF BK125.out 2) | (go_at_call 60; (with_reducible refine (r4prime.calls k a0_0 t127 _ A8.out).mono ?_); rintro e w' ⟨rfl, ⟨nd, rfl⟩⟩; (try first | exact ⟨rfl, _, World.drewN_drewN _ _ _⟩ | exact ⟨rfl, _, Eq.trans (World.drewN_drewN _ _ _) (congrArg (World.drewN _) (Nat.add_assoc _ _ _))⟩))); try go_wp2_with (first | (go_at_call 29; (with_reducible refine (r4Order.calls k a0_0 a0_1 _ _ l0_2 t126 _ ?side1 ?side2 A4.out).mono ?_); (case side1 => repeat (first | exact (Kd.cB HR0_2.out HB.out) | with_reducible first | refine Kd.cA ?_ _ | refine Kd.cN ?_ _ | refine Kd.cD ?_)); (case side2 => exact HC0_2.out); rintro e w10 ⟨rfl, hb⟩; have n0_ := Q9a.mk (kB (g := gb125) (o := .cells #[.int .i64 a0_0, .int .i64 a0_1, .slice A0_2 l0_2.length c0_2] 24 (0, 0)) (by (with_reducible repeat (first | refine kN ?_ _ | refine kD ?_ | refine kA ?_ _)); exact BK125.out) hb); have n1_ := Q9a.mk (bP (by repeat (first | (with_reducible first | exact HB.out | apply bA | apply bN | apply bD | refine bS ?_ GE125.out) | exact HB.out)) hb); clear BK125; clear HB; have BK125 := n0_; have HB := n1_; clear n0_ n1_; have hcz11_0 : w10.cell? ⟨gb125, 0, none⟩ = some (.int .i64 a0_0) := (kC BK125.out 0).trans rfl; have hcz11_1 : w10.cell? ⟨gb125, 1, none⟩ = some (.int .i64 a0_1) := (kC BK125.out 1).trans rfl; have hcz11_2 : w10.cell? ⟨gb125, 2, none⟩ = some (.slice A0_2 l0_2.length c0_2) := (kC BK125.out 2).trans rfl; have hfz11_0 := kF BK125.out 0; have hfz11_1 := kF BK125.out 1; have hfz11_2 := kF BK125.out 2) | (go_at_call 60; (with_reducible refine (r4prime.calls k a0_0 t127 _ A8.out).mono ?_); rintro e w' ⟨rfl, ⟨nd, rfl⟩⟩; (try first | exact ⟨rfl, _, World.drewN_drewN _ _ _⟩ | exact ⟨rfl, _, Eq.trans (World.drewN_drewN _ _ _) (congrArg (World.drewN _) (Nat.add_assoc _ _ _))⟩))))
  go_meet
  case rel => exact ⟨_, (!t127), (by first | rfl | (simp; done) | (simp [*]; done)), H', ⟨by first | omega | exact Nat.le_refl _⟩, ⟨by (with_reducible repeat (first | refine kN ?_ _ | refine kD ?_ | refine kA ?_ _)); exact BK125.out⟩, ⟨by repeat (first | (with_reducible first | exact HB.out | apply bA | apply bN | apply bD | refine bS ?_ GE125.out) | exact HB.out)⟩⟩
 case rest =>
  clear HC2;try clear c2
  try clear p2
  try clear c5
  try clear c5b0
  try clear c5b1
  try clear hcz11_0
  try clear hcz11_1
  try clear hcz11_2
  try clear hcz6_0
  try clear hcz6_1
  try clear hcz6_2
  try clear hcz9_0
  try clear hcz9_1
  try clear hcz9_2
  try clear hfz11_0
  try clear hfz11_1
  try clear hfz11_2
  try clear hfz6_0
  try clear hfz6_1
  try clear hfz6_2
  try clear hfz9_0
  try clear hfz9_1
  try clear hfz9_2
  obtain ⟨kq, x12_1, rfl, HA, HJ1, BK125, HB⟩ := hcut
  cases kq with
  | zero => exact absurd HA.out (by simp [r4Check.j0])
  | succ kj1 =>
   have H := HA.out;clear HA;simp only [r4Check.j0] at H;by_cases c12 : x12_1 = true
   ·subst c12;have H1 : (some 1) = some r := by rw [if_pos rfl] at H; exact H
    clear H;have H := H1;clear H1;obtain rfl := Option.some.inj H;go_wp2
    repeat (go_quiet (fail); try go_wp2)
    go_ret
    exact ⟨by first | rfl | (simp [*, eN, eS] <;> rfl), by repeat (first | (with_reducible first | exact HB.out | apply bA | apply bN | apply bD | refine bS ?_ GE125.out) | exact HB.out)⟩
   replace c12 := Bool.eq_false_iff.mpr c12;subst c12;have H1 : (if a0_1 = 1 then (if (l0_2.length : Int) = 0 then (some 0) else (some 1)) else (if (l0_2.length : Int) = a0_1 then (r4Check.l0 kj1 0 a0_0 a0_1 l0_2) else (some 1))) = some r := by rw [if_neg (show ¬ (false = true) by decide)] at H; exact H
   clear H;have H := H1;clear H1;by_cases c13 : a0_1 = 1
   ·rw [if_pos c13] at H;have c13b0 : (a0_1 == 1) = true := beq_iff_eq.mpr c13;have c13b1 : (a0_1 != 1) = false := bne_eq_false_iff_eq.mpr c13;clear c13;by_cases c14 : (l0_2.length : Int) = 0
    ·rw [if_pos c14] at H;have c14b0 : ((l0_2.length : Int) == 0) = true := beq_iff_eq.mpr c14;have c14b1 : ((l0_2.length : Int) != 0) = false := bne_eq_false_iff_eq.mpr c14;clear c14;obtain rfl := Option.some.inj H;have hcz15_0 : wc.cell? ⟨gb125, 0, none⟩ = some (.int .i64 a0_0) := (kC BK125.out 0).trans rfl;have hcz15_1 : wc.cell? ⟨gb125, 1, none⟩ = some (.int .i64 a0_1) := (kC BK125.out 1).trans rfl;have hcz15_2 : wc.cell? ⟨gb125, 2, none⟩ = some (.slice A0_2 l0_2.length c0_2) := (kC BK125.out 2).trans rfl;have hfz15_0 := kF BK125.out 0;have hfz15_1 := kF BK125.out 1;have hfz15_2 := kF BK125.out 2;go_wp2
     repeat (go_quiet (fail); try go_wp2)
     go_ret
     exact ⟨by first | rfl | (simp [*, eN, eS] <;> rfl), by repeat (first | (with_reducible first | exact HB.out | apply bA | apply bN | apply bD | refine bS ?_ GE125.out) | exact HB.out)⟩
    rw [if_neg c14] at H;have c14b0 : ((l0_2.length : Int) == 0) = false := beq_eq_false_iff_ne.mpr c14;have c14b1 : ((l0_2.length : Int) != 0) = true := bne_iff_ne.mpr c14;have c14b2 : ¬ (l0_2 = []) := fun h_ => c14 (by rw [h_]; rfl)
    obtain rfl := Option.some.inj H;have hcz16_0 : wc.cell? ⟨gb125, 0, none⟩ = some (.int .i64 a0_0) := (kC BK125.out 0).trans rfl;have hcz16_1 : wc.cell? ⟨gb125, 1, none⟩ = some (.int .i64 a0_1) := (kC BK125.out 1).trans rfl;have hcz16_2 : wc.cell? ⟨gb125, 2, none⟩ = some (.slice A0_2 l0_2.length c0_2) := (kC BK125.out 2).trans rfl;have hfz16_0 := kF BK125.out 0;have hfz16_1 := kF BK125.out 1;have hfz16_2 := kF BK125.out 2;go_wp2
    repeat (go_quiet (fail); try go_wp2)
    go_ret
    exact ⟨by first | rfl | (simp [*, eN, eS] <;> rfl), by repeat (first | (with_reducible first | exact HB.out | apply bA | apply bN | apply bD | refine bS ?_ GE125.out) | exact HB.out)⟩
   rw [if_neg c13] at H;have c13b0 : (a0_1 == 1) = false := beq_eq_false_iff_ne.mpr c13;have c13b1 : (a0_1 != 1) = true := bne_iff_ne.mpr c13;by_cases c17 : (l0_2.length : Int) = a0_1
   ·rw [if_pos c17] at H;have c17b0 : ((l0_2.length : Int) == a0_1) = true := beq_iff_eq.mpr c17;have c17b1 : ((l0_2.length : Int) != a0_1) = false := bne_eq_false_iff_eq.mpr c17;clear c17;have H' := Q9a.mk H;clear H;have hcz18_0 : wc.cell? ⟨gb125, 0, none⟩ = some (.int .i64 a0_0) := (kC BK125.out 0).trans rfl;have hcz18_1 : wc.cell? ⟨gb125, 1, none⟩ = some (.int .i64 a0_1) := (kC BK125.out 1).trans rfl;have hcz18_2 : wc.cell? ⟨gb125, 2, none⟩ = some (.slice A0_2 l0_2.length c0_2) := (kC BK125.out 2).trans rfl;have hfz18_0 := kF BK125.out 0;have hfz18_1 := kF BK125.out 1;have hfz18_2 := kF BK125.out 2;go_wp2
    repeat (go_quiet (fail); try go_wp2)
    go_loopg [3] kj1 (fun kq v3 w' => ∃ (x3_2 : Int), v3 = .int .i64 x3_2 ∧ Q9a (r4Check.l0 kq x3_2 a0_0 a0_1 l0_2 = some r) ∧ Q9a (kq ≤ kj1) ∧ Q9a (w'.heap[gb125]? = some (.cells #[.int .i64 a0_0, .int .i64 a0_1, (.slice A0_2 l0_2.length c0_2)] 24 (0, 0))) ∧ Q9a (Below w.heap.size w w'))
    case atStart => exact ⟨(0), (by first | rfl | (simp; done) | (simp [*]; done)), H', ⟨Nat.le_refl _⟩, ⟨by (with_reducible repeat (first | refine kN ?_ _ | refine kD ?_ | refine kA ?_ _)); exact BK125.out⟩, ⟨by repeat (first | (with_reducible first | exact HB.out | apply bA | apply bN | apply bD | refine bS ?_ GE125.out) | exact HB.out)⟩⟩
    case round =>
     clear H';try clear c1
     try clear c2
     try clear p2
     try clear c5
     try clear c5b0
     try clear c5b1
     try clear c12
     try clear c13
     try clear c13b0
     try clear c13b1
     try clear c14
     try clear c14b0
     try clear c14b1
     try clear c14b2
     try clear c17
     try clear c17b0
     try clear c17b1
     try clear hcz11_0
     try clear hcz11_1
     try clear hcz11_2
     try clear hcz15_0
     try clear hcz15_1
     try clear hcz15_2
     try clear hcz16_0
     try clear hcz16_1
     try clear hcz16_2
     try clear hcz18_0
     try clear hcz18_1
     try clear hcz18_2
     try clear hcz6_0
     try clear hcz6_1
     try clear hcz6_2
     try clear hcz9_0
     try clear hcz9_1
     try clear hcz9_2
     try clear hfz11_0
     try clear hfz11_1
     try clear hfz11_2
     try clear hfz15_0
     try clear hfz15_1
     try clear hfz15_2
     try clear hfz16_0
     try clear hfz16_1
     try clear hfz16_2
     try clear hfz18_0
     try clear hfz18_1
     try clear hfz18_2
     try clear hfz6_0
     try clear hfz6_1
     try clear hfz6_2
     try clear hfz9_0
     try clear hfz9_1
     try clear hfz9_2
     try clear p2
     obtain ⟨x3_2, rfl, HA, HK2, BK125, HB⟩ := hrel
     cases gk with
     | zero => exact absurd HA.out (by simp [r4Check.l0])
     | succ k2 =>
      have H := HA.out;clear HA;simp only [r4Check.l0] at H;by_cases c19 : x3_2 < a0_1
      ·rw [if_pos c19] at H;have c19b0 : decide (x3_2 < a0_1) = true := decide_eq_true c19;clear c19;by_cases c20 : 0 ≤ x3_2
       ·rw [if_pos c20] at H;have c20b0 : decide (0 ≤ x3_2) = true := decide_eq_true c20;clear c20;by_cases c21 : x3_2 < (l0_2.length : Int)
        ·rw [if_pos c21] at H;have c21b0 : decide (x3_2 < (l0_2.length : Int)) = true := decide_eq_true c21;clear c21;by_cases c22 : (rd l0_2 x3_2) < 0
         ·rw [if_pos c22] at H;have c22b0 : decide ((rd l0_2 x3_2) < 0) = true := decide_eq_true c22;clear c22;obtain rfl := Option.some.inj H;have hcz23_0 : wr.cell? ⟨gb125, 0, none⟩ = some (.int .i64 a0_0) := (kC BK125.out 0).trans rfl;have hcz23_1 : wr.cell? ⟨gb125, 1, none⟩ = some (.int .i64 a0_1) := (kC BK125.out 1).trans rfl;have hcz23_2 : wr.cell? ⟨gb125, 2, none⟩ = some (.slice A0_2 l0_2.length c0_2) := (kC BK125.out 2).trans rfl;have hfz23_0 := kF BK125.out 0;have hfz23_1 := kF BK125.out 1;have hfz23_2 := kF BK125.out 2;have p128 : 0 ≤ (x3_2 : Int) := of_decide_eq_true (by first | (with_reducible assumption) | assumption);have q128 : x3_2 < (l0_2.length : Int) := of_decide_eq_true (by first | (with_reducible assumption) | assumption);obtain ⟨ad128, e128, hx128_0⟩ := Kd.at_int HR0_2.out x3_2 p128 q128
          cases e128
          replace hx128_0 := (HB.out.cell (World.block_lt_of_cell? w _ hx128_0)).trans hx128_0;replace p128 := eq_true p128;replace q128 := eq_true q128;go_wp2
          repeat (go_quiet (fail); try go_wp2)
          go_ret
          exact ⟨by first | rfl | (simp [*, eN, eS] <;> rfl), by repeat (first | (with_reducible first | exact HB.out | apply bA | apply bN | apply bD | refine bS ?_ GE125.out) | exact HB.out)⟩
         rw [if_neg c22] at H;have c22b0 : decide ((rd l0_2 x3_2) < 0) = false := decide_eq_false c22;clear c22;by_cases c24 : (rd l0_2 x3_2) ≥ a0_0
         ·rw [if_pos c24] at H;have c24b0 : decide (a0_0 ≤ (rd l0_2 x3_2)) = true := decide_eq_true c24;clear c24;obtain rfl := Option.some.inj H;have hcz25_0 : wr.cell? ⟨gb125, 0, none⟩ = some (.int .i64 a0_0) := (kC BK125.out 0).trans rfl;have hcz25_1 : wr.cell? ⟨gb125, 1, none⟩ = some (.int .i64 a0_1) := (kC BK125.out 1).trans rfl;have hcz25_2 : wr.cell? ⟨gb125, 2, none⟩ = some (.slice A0_2 l0_2.length c0_2) := (kC BK125.out 2).trans rfl;have hfz25_0 := kF BK125.out 0;have hfz25_1 := kF BK125.out 1;have hfz25_2 := kF BK125.out 2;have p128 : 0 ≤ (x3_2 : Int) := of_decide_eq_true (by first | (with_reducible assumption) | assumption);have q128 : x3_2 < (l0_2.length : Int) := of_decide_eq_true (by first | (with_reducible assumption) | assumption);obtain ⟨ad128, e128, hx128_0⟩ := Kd.at_int HR0_2.out x3_2 p128 q128
          cases e128
          replace hx128_0 := (HB.out.cell (World.block_lt_of_cell? w _ hx128_0)).trans hx128_0;replace p128 := eq_true p128;replace q128 := eq_true q128;have p129 : 0 ≤ (x3_2 : Int) := of_decide_eq_true (by first | (with_reducible assumption) | assumption);have q129 : x3_2 < (l0_2.length : Int) := of_decide_eq_true (by first | (with_reducible assumption) | assumption);obtain ⟨ad129, e129, hx129_0⟩ := Kd.at_int HR0_2.out x3_2 p129 q129;obtain rfl : ad128 = ad129 := (by injection e129);replace hx129_0 := (HB.out.cell (World.block_lt_of_cell? w _ hx129_0)).trans hx129_0;replace p129 := eq_true p129;replace q129 := eq_true q129;go_wp2
          repeat (go_quiet (fail); try go_wp2)
          go_ret
          exact ⟨by first | rfl | (simp [*, eN, eS] <;> rfl), by repeat (first | (with_reducible first | exact HB.out | apply bA | apply bN | apply bD | refine bS ?_ GE125.out) | exact HB.out)⟩
         rw [if_neg c24] at H;have c24b0 : decide (a0_0 ≤ (rd l0_2 x3_2)) = false := decide_eq_false c24;clear c24;have H' := Q9a.mk H;clear H;have hcz26_0 : wr.cell? ⟨gb125, 0, none⟩ = some (.int .i64 a0_0) := (kC BK125.out 0).trans rfl;have hcz26_1 : wr.cell? ⟨gb125, 1, none⟩ = some (.int .i64 a0_1) := (kC BK125.out 1).trans rfl;have hcz26_2 : wr.cell? ⟨gb125, 2, none⟩ = some (.slice A0_2 l0_2.length c0_2) := (kC BK125.out 2).trans rfl;have hfz26_0 := kF BK125.out 0;have hfz26_1 := kF BK125.out 1;have hfz26_2 := kF BK125.out 2;have p128 : 0 ≤ (x3_2 : Int) := of_decide_eq_true (by first | (with_reducible assumption) | assumption);have q128 : x3_2 < (l0_2.length : Int) := of_decide_eq_true (by first | (with_reducible assumption) | assumption);obtain ⟨ad128, e128, hx128_0⟩ := Kd.at_int HR0_2.out x3_2 p128 q128
         cases e128
         replace hx128_0 := (HB.out.cell (World.block_lt_of_cell? w _ hx128_0)).trans hx128_0;replace p128 := eq_true p128;replace q128 := eq_true q128;have p129 : 0 ≤ (x3_2 : Int) := of_decide_eq_true (by first | (with_reducible assumption) | assumption);have q129 : x3_2 < (l0_2.length : Int) := of_decide_eq_true (by first | (with_reducible assumption) | assumption);obtain ⟨ad129, e129, hx129_0⟩ := Kd.at_int HR0_2.out x3_2 p129 q129;obtain rfl : ad128 = ad129 := (by injection e129);replace hx129_0 := (HB.out.cell (World.block_lt_of_cell? w _ hx129_0)).trans hx129_0;replace p129 := eq_true p129;replace q129 := eq_true q129;go_wp2
         repeat (go_quiet (fail); try go_wp2)
         go_roundg k2
         case measure => have := HJ1.out; have := HK2.out; omega
         case rel => exact ⟨(wrap64 (x3_2 + 1)), (by first | rfl | (simp; done) | (simp [*]; done)), H', ⟨by have := HJ1.out; have := HK2.out; omega⟩, ⟨by (with_reducible repeat (first | refine kN ?_ _ | refine kD ?_ | refine kA ?_ _)); exact BK125.out⟩, ⟨by repeat (first | (with_reducible first | exact HB.out | apply bA | apply bN | apply bD | refine bS ?_ GE125.out) | exact HB.out)⟩⟩
        rw [if_neg c21] at H;exact absurd H (by simp)
       rw [if_neg c20] at H;exact absurd H (by simp)
      rw [if_neg c19] at H;have c19b0 : decide (x3_2 < a0_1) = false := decide_eq_false c19;clear c19;replace H := Option.bind_eq_some_iff.mp H;obtain ⟨t130, A270, H⟩ := H;replace H : (if t130 = true then (some 0) else (some 1)) = some r := H;have A27 := Q9a.mk A270;clear A270;by_cases c28 : t130 = true
      ·subst c28;have H1 : (some 0) = some r := by rw [if_pos rfl] at H; exact H
       clear H;have H := H1;clear H1;obtain rfl := Option.some.inj H;have hcz29_0 : wr.cell? ⟨gb125, 0, none⟩ = some (.int .i64 a0_0) := (kC BK125.out 0).trans rfl;have hcz29_1 : wr.cell? ⟨gb125, 1, none⟩ = some (.int .i64 a0_1) := (kC BK125.out 1).trans rfl;have hcz29_2 : wr.cell? ⟨gb125, 2, none⟩ = some (.slice A0_2 l0_2.length c0_2) := (kC BK125.out 2).trans rfl;have hfz29_0 := kF BK125.out 0;have hfz29_1 := kF BK125.out 1;have hfz29_2 := kF BK125.out 2;go_wp2_with (first | (go_at_call 61; (with_reducible refine (r4irreducible.calls k2 _ _ l0_2 a0_0 true _ ?side1 ?side2 A27.out).mono ?_); (case side1 => repeat (first | exact (Kd.cB HR0_2.out HB.out) | with_reducible first | refine Kd.cA ?_ _ | refine Kd.cN ?_ _ | refine Kd.cD ?_)); (case side2 => exact HC0_2.out); rintro e w30 ⟨rfl, hb⟩; have n0_ := Q9a.mk (kB (g := gb125) (o := .cells #[.int .i64 a0_0, .int .i64 a0_1, .slice A0_2 l0_2.length c0_2] 24 (0, 0)) (by (with_reducible repeat (first | refine kN ?_ _ | refine kD ?_ | refine kA ?_ _)); exact BK125.out) hb); have n1_ := Q9a.mk (bP (by repeat (first | (with_reducible first | exact HB.out | apply bA | apply bN | apply bD | refine bS ?_ GE125.out) | exact HB.out)) hb); clear BK125; clear HB; have BK125 := n0_; have HB := n1_; clear n0_ n1_; (try clear hb); (try clear hb2); (try clear hk); (try clear hi)))
       repeat (go_quiet (first | (go_at_call 61; (with_reducible refine (r4irreducible.calls k2 _ _ l0_2 a0_0 true _ ?side1 ?side2 A27.out).mono ?_); (case side1 => repeat (first | exact (Kd.cB HR0_2.out HB.out) | with_reducible first | refine Kd.cA ?_ _ | refine Kd.cN ?_ _ | refine Kd.cD ?_)); (case side2 => exact HC0_2.out); rintro e w30 ⟨rfl, hb⟩; have n0_ := Q9a.mk (kB (g := gb125) (o := .cells #[.int .i64 a0_0, .int .i64 a0_1, .slice A0_2 l0_2.length c0_2] 24 (0, 0)) (by (with_reducible repeat (first | refine kN ?_ _ | refine kD ?_ | refine kA ?_ _)); exact BK125.out) hb); have n1_ := Q9a.mk (bP (by repeat (first | (with_reducible first | exact HB.out | apply bA | apply bN | apply bD | refine bS ?_ GE125.out) | exact HB.out)) hb); clear BK125; clear HB; have BK125 := n0_; have HB := n1_; clear n0_ n1_; (try clear hb); (try clear hb2); (try clear hk); (try clear hi))); try go_wp2_with (first | (go_at_call 61; (with_reducible refine (r4irreducible.calls k2 _ _ l0_2 a0_0 true _ ?side1 ?side2 A27.out).mono ?_); (case side1 => repeat (first | exact (Kd.cB HR0_2.out HB.out) | with_reducible first | refine Kd.cA ?_ _ | refine Kd.cN ?_ _ | refine Kd.cD ?_)); (case side2 => exact HC0_2.out); rintro e w30 ⟨rfl, hb⟩; have n0_ := Q9a.mk (kB (g := gb125) (o := .cells #[.int .i64 a0_0, .int .i64 a0_1, .slice A0_2 l0_2.length c0_2] 24 (0, 0)) (by (with_reducible repeat (first | refine kN ?_ _ | refine kD ?_ | refine kA ?_ _)); exact BK125.out) hb); have n1_ := Q9a.mk (bP (by repeat (first | (with_reducible first | exact HB.out | apply bA | apply bN | apply bD | refine bS ?_ GE125.out) | exact HB.out)) hb); clear BK125; clear HB; have BK125 := n0_; have HB := n1_; clear n0_ n1_; (try clear hb); (try clear hb2); (try clear hk); (try clear hi))))
       go_ret
       exact ⟨by first | rfl | (simp [*, eN, eS] <;> rfl), by repeat (first | (with_reducible first | exact HB.out | apply bA | apply bN | apply bD | refine bS ?_ GE125.out) | exact HB.out)⟩
      replace c28 := Bool.eq_false_iff.mpr c28;subst c28;have H1 : (some 1) = some r := by rw [if_neg (show ¬ (false = true) by decide)] at H; exact H
      clear H;have H := H1;clear H1;obtain rfl := Option.some.inj H;have hcz31_0 : wr.cell? ⟨gb125, 0, none⟩ = some (.int .i64 a0_0) := (kC BK125.out 0).trans rfl;have hcz31_1 : wr.cell? ⟨gb125, 1, none⟩ = some (.int .i64 a0_1) := (kC BK125.out 1).trans rfl;have hcz31_2 : wr.cell? ⟨gb125, 2, none⟩ = some (.slice A0_2 l0_2.length c0_2) := (kC BK125.out 2).trans rfl;have hfz31_0 := kF BK125.out 0;have hfz31_1 := kF BK125.out 1;have hfz31_2 := kF BK125.out 2;go_wp2_with (first | (go_at_call 61; (with_reducible refine (r4irreducible.calls k2 _ _ l0_2 a0_0 false _ ?side1 ?side2 A27.out).mono ?_); (case side1 => repeat (first | exact (Kd.cB HR0_2.out HB.out) | with_reducible first | refine Kd.cA ?_ _ | refine Kd.cN ?_ _ | refine Kd.cD ?_)); (case side2 => exact HC0_2.out); rintro e w32 ⟨rfl, hb⟩; have n0_ := Q9a.mk (kB (g := gb125) (o := .cells #[.int .i64 a0_0, .int .i64 a0_1, .slice A0_2 l0_2.length c0_2] 24 (0, 0)) (by (with_reducible repeat (first | refine kN ?_ _ | refine kD ?_ | refine kA ?_ _)); exact BK125.out) hb); have n1_ := Q9a.mk (bP (by repeat (first | (with_reducible first | exact HB.out | apply bA | apply bN | apply bD | refine bS ?_ GE125.out) | exact HB.out)) hb); clear BK125; clear HB; have BK125 := n0_; have HB := n1_; clear n0_ n1_; (try clear hb); (try clear hb2); (try clear hk); (try clear hi)))
      repeat (go_quiet (first | (go_at_call 61; (with_reducible refine (r4irreducible.calls k2 _ _ l0_2 a0_0 false _ ?side1 ?side2 A27.out).mono ?_); (case side1 => repeat (first | exact (Kd.cB HR0_2.out HB.out) | with_reducible first | refine Kd.cA ?_ _ | refine Kd.cN ?_ _ | refine Kd.cD ?_)); (case side2 => exact HC0_2.out); rintro e w32 ⟨rfl, hb⟩; have n0_ := Q9a.mk (kB (g := gb125) (o := .cells #[.int .i64 a0_0, .int .i64 a0_1, .slice A0_2 l0_2.length c0_2] 24 (0, 0)) (by (with_reducible repeat (first | refine kN ?_ _ | refine kD ?_ | refine kA ?_ _)); exact BK125.out) hb); have n1_ := Q9a.mk (bP (by repeat (first | (with_reducible first | exact HB.out | apply bA | apply bN | apply bD | refine bS ?_ GE125.out) | exact HB.out)) hb); clear BK125; clear HB; have BK125 := n0_; have HB := n1_; clear n0_ n1_; (try clear hb); (try clear hb2); (try clear hk); (try clear hi))); try go_wp2_with (first | (go_at_call 61; (with_reducible refine (r4irreducible.calls k2 _ _ l0_2 a0_0 false _ ?side1 ?side2 A27.out).mono ?_); (case side1 => repeat (first | exact (Kd.cB HR0_2.out HB.out) | with_reducible first | refine Kd.cA ?_ _ | refine Kd.cN ?_ _ | refine Kd.cD ?_)); (case side2 => exact HC0_2.out); rintro e w32 ⟨rfl, hb⟩; have n0_ := Q9a.mk (kB (g := gb125) (o := .cells #[.int .i64 a0_0, .int .i64 a0_1, .slice A0_2 l0_2.length c0_2] 24 (0, 0)) (by (with_reducible repeat (first | refine kN ?_ _ | refine kD ?_ | refine kA ?_ _)); exact BK125.out) hb); have n1_ := Q9a.mk (bP (by repeat (first | (with_reducible first | exact HB.out | apply bA | apply bN | apply bD | refine bS ?_ GE125.out) | exact HB.out)) hb); clear BK125; clear HB; have BK125 := n0_; have HB := n1_; clear n0_ n1_; (try clear hb); (try clear hb2); (try clear hk); (try clear hi))))
      go_ret
      exact ⟨by first | rfl | (simp [*, eN, eS] <;> rfl), by repeat (first | (with_reducible first | exact HB.out | apply bA | apply bN | apply bD | refine bS ?_ GE125.out) | exact HB.out)⟩
   rw [if_neg c17] at H;have c17b0 : ((l0_2.length : Int) == a0_1) = false := beq_eq_false_iff_ne.mpr c17;have c17b1 : ((l0_2.length : Int) != a0_1) = true := bne_iff_ne.mpr c17;obtain rfl := Option.some.inj H;have hcz33_0 : wc.cell? ⟨gb125, 0, none⟩ = some (.int .i64 a0_0) := (kC BK125.out 0).trans rfl;have hcz33_1 : wc.cell? ⟨gb125, 1, none⟩ = some (.int .i64 a0_1) := (kC BK125.out 1).trans rfl;have hcz33_2 : wc.cell? ⟨gb125, 2, none⟩ = some (.slice A0_2 l0_2.length c0_2) := (kC BK125.out 2).trans rfl;have hfz33_0 := kF BK125.out 0;have hfz33_1 := kF BK125.out 1;have hfz33_2 := kF BK125.out 2;go_wp2
   repeat (go_quiet (fail); try go_wp2)
   go_ret
   exact ⟨by first | rfl | (simp [*, eN, eS] <;> rfl), by repeat (first | (with_reducible first | exact HB.out | apply bA | apply bN | apply bD | refine bS ?_ GE125.out) | exact HB.out)⟩
mutual
def field_order.j0 : Nat → Int → Int → Bool → Option (Int)
 | 0, _, _, _ => none
 | k + 1, x0, x1, x19 => if x19 = true then (some 0) else (field_order.l0 k x0 1 x1 0)
def field_order.l0 : Nat → Int → Int → Int → Int → Option (Int)
 | 0, _, _, _, _ => none
 | k + 1, x0, x5, x20, x21 => if x21 < x20 then (if (wrap64 (x5 * x0)) > 256 then (some 0) else (field_order.l0 k x0 (wrap64 (x5 * x0)) x20 (wrap64 (x21 + 1)))) else (some x5)
end
def field_order.f (k : Nat) (a0 : Int) (a1 : Int) : Option (Int) := if a0 < 2 then (field_order.j0 k a0 a1 true) else (if a0 > 256 then (field_order.j0 k a0 a1 true) else (if a1 < 1 then (field_order.j0 k a0 a1 true) else (field_order.j0 k a0 a1 (decide (a1 > 8)))))
theorem field_order.calls (k : Nat) (a0 : Int) (a1 : Int) (r : Int) (w : World) (h : field_order.f k a0 a1 = some r) :
  Calls Try.prog 66 #[.int .i64 a0, .int .i64 a1] w fun e w' => e = .returned (.int .i64 r) ∧ Drawn0 w w' := by
 have H : (if a0 < 2 then (field_order.j0 k a0 a1 true) else (if a0 > 256 then (field_order.j0 k a0 a1 true) else (if a1 < 1 then (field_order.j0 k a0 a1 true) else (field_order.j0 k a0 a1 (decide (a1 > 8)))))) = some r := h;clear h;have HC3 := Q9a.mk H;clear H;go_enter Try.func66, Try.ntmps66
 go_upto_region 1 with (fail)
 go_cut [19] (fun v19 wc => ∃ (kq : Nat) (x19_2 : Bool), v19 = .bool x19_2 ∧ Q9a (field_order.j0 kq a0 a1 x19_2 = some r) ∧ Q9a (kq ≤ k) ∧ Drawn0 w wc)
 case first =>
  have H := HC3.out;clear HC3;by_cases c4 : a0 < 2
  ·rw [if_pos c4] at H;have c4b0 : decide (a0 < 2) = true := decide_eq_true c4;clear c4;(first | rw [c4b0] | (simp only [i64_w, i32_w]; rw [c4b0]) | skip)
   have H' := Q9a.mk H;clear H;go_wp2
   go_meet
   case rel => exact ⟨_, (true), (by first | rfl | (simp; done) | (simp [*]; done)), H', ⟨by first | omega | exact Nat.le_refl _⟩, by repeat (first | exact Drawn0.refl _ | apply Drawn0.step)⟩
  rw [if_neg c4] at H;have c4b0 : decide (a0 < 2) = false := decide_eq_false c4;clear c4;(first | rw [c4b0] | (simp only [i64_w, i32_w]; rw [c4b0]) | skip)
  by_cases c5 : a0 > 256
  ·rw [if_pos c5] at H;have c5b0 : decide (256 < a0) = true := decide_eq_true c5;clear c5;have H' := Q9a.mk H;clear H;go_wp2
   go_meet
   case rel => exact ⟨_, (true), (by first | rfl | (simp; done) | (simp [*]; done)), H', ⟨by first | omega | exact Nat.le_refl _⟩, by repeat (first | exact Drawn0.refl _ | apply Drawn0.step)⟩
  rw [if_neg c5] at H;have c5b0 : decide (256 < a0) = false := decide_eq_false c5;clear c5;by_cases c6 : a1 < 1
  ·rw [if_pos c6] at H;have c6b0 : decide (a1 < 1) = true := decide_eq_true c6;clear c6;have H' := Q9a.mk H;clear H;go_wp2
   go_meet
   case rel => exact ⟨_, (true), (by first | rfl | (simp; done) | (simp [*]; done)), H', ⟨by first | omega | exact Nat.le_refl _⟩, by repeat (first | exact Drawn0.refl _ | apply Drawn0.step)⟩
  rw [if_neg c6] at H;have c6b0 : decide (a1 < 1) = false := decide_eq_false c6;clear c6;have H' := Q9a.mk H;clear H;go_wp2
  go_meet
  case rel => exact ⟨_, (decide (a1 > 8)), (by first | rfl | (simp; done) | (simp [*]; done)), H', ⟨by first | omega | exact Nat.le_refl _⟩, by repeat (first | exact Drawn0.refl _ | apply Drawn0.step)⟩
 case rest =>
  clear HC3;try clear p2
  try clear c4
  try clear c4b0
  try clear c5
  try clear c5b0
  try clear c6
  try clear c6b0
  obtain ⟨kq, x19_2, rfl, HA, HJ2, ⟨mc2, rfl⟩⟩ := hcut
  cases kq with
  | zero => exact absurd HA.out (by simp [field_order.j0])
  | succ kj2 =>
   have H := HA.out;clear HA;simp only [field_order.j0] at H;by_cases c7 : x19_2 = true
   ·subst c7;have H1 : (some 0) = some r := by rw [if_pos rfl] at H; exact H
    clear H;have H := H1;clear H1;obtain rfl := Option.some.inj H;go_wp2
    go_ret
    exact ⟨by first | rfl | (simp; done) | (simp [*]; done), by repeat (first | exact Drawn0.refl _ | apply Drawn0.step)⟩
   replace c7 := Bool.eq_false_iff.mpr c7;subst c7;have H1 : (field_order.l0 kj2 a0 1 a1 0) = some r := by rw [if_neg (show ¬ (false = true) by decide)] at H; exact H
   clear H;have H := H1;clear H1;have H' := Q9a.mk H;clear H;go_wp2
   go_loopg [5, 21] kj2 (fun kq v5 v21 w' => ∃ (x5_2 : Int) (x21_2 : Int), v5 = .int .i64 x5_2 ∧ v21 = .int .i64 x21_2 ∧ Q9a (field_order.l0 kq a0 x5_2 a1 x21_2 = some r) ∧ Q9a (kq ≤ kj2) ∧ Drawn0 w w')
   case atStart => exact ⟨(1), (0), (by first | rfl | (simp; done) | (simp [*]; done)), (by first | rfl | (simp; done) | (simp [*]; done)), H', ⟨Nat.le_refl _⟩, by repeat (first | exact Drawn0.refl _ | apply Drawn0.step)⟩
   case round =>
    clear H';try clear c2
    try clear p2
    try clear c4
    try clear c4b0
    try clear c5
    try clear c5b0
    try clear c6
    try clear c6b0
    try clear c7
    try clear p2
    obtain ⟨x5_2, x21_2, rfl, rfl, HA, HK2, ⟨m2, rfl⟩⟩ := hrel
    cases gk with
    | zero => exact absurd HA.out (by simp [field_order.l0])
    | succ k2 =>
     have H := HA.out;clear HA;simp only [field_order.l0] at H;by_cases c8 : x21_2 < a1
     ·rw [if_pos c8] at H;have c8b0 : decide (x21_2 < a1) = true := decide_eq_true c8;clear c8;by_cases c9 : (wrap64 (x5_2 * a0)) > 256
      ·rw [if_pos c9] at H;have c9b0 : decide (256 < (wrap64 (x5_2 * a0))) = true := decide_eq_true c9;clear c9;obtain rfl := Option.some.inj H;go_wp2
       go_ret
       exact ⟨by first | rfl | (simp; done) | (simp [*]; done), by repeat (first | exact Drawn0.refl _ | apply Drawn0.step)⟩
      rw [if_neg c9] at H;have c9b0 : decide (256 < (wrap64 (x5_2 * a0))) = false := decide_eq_false c9;clear c9;have H' := Q9a.mk H;clear H;go_wp2
      go_roundg k2
      case measure => have := HJ2.out; have := HK2.out; omega
      case rel => exact ⟨(wrap64 (x5_2 * a0)), (wrap64 (x21_2 + 1)), (by first | rfl | (simp; done) | (simp [*]; done)), (by first | rfl | (simp; done) | (simp [*]; done)), H', ⟨by have := HJ2.out; have := HK2.out; omega⟩, by repeat (first | exact Drawn0.refl _ | apply Drawn0.step)⟩
     rw [if_neg c8] at H;have c8b0 : decide (x21_2 < a1) = false := decide_eq_false c8;clear c8;obtain rfl := Option.some.inj H;go_wp2
     go_ret
     exact ⟨by first | rfl | (simp; done) | (simp [*]; done), by repeat (first | exact Drawn0.refl _ | apply Drawn0.step)⟩
def field_isPrime.l0 : Nat → Int → Int → Option (Bool)
 | 0, _, _ => none
 | k + 1, x0, x3 => if (wrap64 (x3 * x3)) ≤ x0 then (if x3 = 0 then (none) else (if (Int.tmod x0 x3) = 0 then (some false) else (field_isPrime.l0 k x0 (wrap64 (x3 + 1))))) else (some (decide (x0 ≥ 2)))
def field_isPrime.f (k : Nat) (a0 : Int) : Option (Bool) := field_isPrime.l0 k a0 2
theorem field_isPrime.calls (k : Nat) (a0 : Int) (r : Bool) (w : World) (h : field_isPrime.f k a0 = some r) :
  Calls Try.prog 90 #[.int .i64 a0] w fun e w' => e = .returned (.bool r) ∧ Drawn0 w w' := by
 have H : (field_isPrime.l0 k a0 2) = some r := h;clear h;have H' := Q9a.mk H;clear H;go_enter Try.func90, Try.ntmps90
 go_wp2
 go_loopg [3] k (fun kq v3 w' => ∃ (x3_1 : Int), v3 = .int .i64 x3_1 ∧ Q9a (field_isPrime.l0 kq a0 x3_1 = some r) ∧ Q9a (kq ≤ k) ∧ Drawn0 w w')
 case atStart => exact ⟨(2), (by first | rfl | (simp; done) | (simp [*]; done)), H', ⟨Nat.le_refl _⟩, by repeat (first | exact Drawn0.refl _ | apply Drawn0.step)⟩
 case round =>
  clear H';obtain ⟨x3_1, rfl, HA, HK1, ⟨m1, rfl⟩⟩ := hrel
  cases gk with
  | zero => exact absurd HA.out (by simp [field_isPrime.l0])
  | succ k1 =>
   have H := HA.out;clear HA;simp only [field_isPrime.l0] at H;by_cases c2 : (wrap64 (x3_1 * x3_1)) ≤ a0
   ·rw [if_pos c2] at H;have c2b0 : decide ((wrap64 (x3_1 * x3_1)) ≤ a0) = true := decide_eq_true c2;clear c2;by_cases c3 : x3_1 = 0
    ·rw [if_pos c3] at H;exact absurd H (by simp)
    rw [if_neg c3] at H;have c3b0 : (x3_1 == 0) = false := beq_eq_false_iff_ne.mpr c3;have c3b1 : (x3_1 != 0) = true := bne_iff_ne.mpr c3;by_cases c4 : (Int.tmod a0 x3_1) = 0
    ·rw [if_pos c4] at H;have c4b0 : ((Int.tmod a0 x3_1) == 0) = true := beq_iff_eq.mpr c4;have c4b1 : ((Int.tmod a0 x3_1) != 0) = false := bne_eq_false_iff_eq.mpr c4;clear c4;obtain rfl := Option.some.inj H;go_wp2
     go_ret
     exact ⟨by first | rfl | (simp; done) | (simp [*]; done), by repeat (first | exact Drawn0.refl _ | apply Drawn0.step)⟩
    rw [if_neg c4] at H;have c4b0 : ((Int.tmod a0 x3_1) == 0) = false := beq_eq_false_iff_ne.mpr c4;have c4b1 : ((Int.tmod a0 x3_1) != 0) = true := bne_iff_ne.mpr c4;have H' := Q9a.mk H;clear H;go_wp2
    go_roundg k1
    case measure => have := HK1.out; omega
    case rel => exact ⟨(wrap64 (x3_1 + 1)), (by first | rfl | (simp; done) | (simp [*]; done)), H', ⟨by have := HK1.out; omega⟩, by repeat (first | exact Drawn0.refl _ | apply Drawn0.step)⟩
   rw [if_neg c2] at H;have c2b0 : decide ((wrap64 (x3_1 * x3_1)) ≤ a0) = false := decide_eq_false c2;clear c2;obtain rfl := Option.some.inj H;go_wp2
   go_ret
   exact ⟨by first | rfl | (simp; done) | (simp [*]; done), by repeat (first | exact Drawn0.refl _ | apply Drawn0.step)⟩
end
end Go.Proofs.Ytlbddjojhcgpiaa.P
end
-- Pa4
section
namespace Go.Proofs.Ytlbddjojhcgpiaa.P
noncomputable section
open Go.RowKit Go.Proofs.Ytlbddjojhcgpiaa.Hand Go.Proofs.YtlbddjojhcgpiaaW.PrintWords Go.Proofs.YtlbddjojhcgpiaaW.PrintLast Go.Proofs.YtlbddjojhcgpiaaW.PrintMore
set_option linter.unusedVariables false
set_option linter.unusedSimpArgs false
mutual
def field_shape.j0 : Nat → Bool → Int → Int → List Int → Option (Bool)
 | 0, _, _, _, _ => none
 | k + 1, x16, x132000, x132001, x132002 => if x16 = true then (some false) else (if x132001 = 1 then (some ((x132002.length : Int) == 0)) else (if (x132002.length : Int) = x132001 then (field_shape.l0 k x132002 (x132002.length : Int) 0 x132000 x132001 x132002) else (some false)))
def field_shape.l0 : Nat → List Int → Int → Int → Int → Int → List Int → Option (Bool)
 | 0, _, _, _, _, _, _ => none
 | k + 1, x31, x32, x33, x132000, x132001, x132002 => if x33 < x32 then (if 0 ≤ x33 then (if x33 < (x31.length : Int) then (if (rd x31 x33) < 0 then (some false) else (if (rd x31 x33) ≥ x132000 then (some false) else (field_shape.l0 k x31 x32 (wrap64 (x33 + 1)) x132000 x132001 x132002))) else (none)) else (none)) else (some true)
end
def field_shape.f (k : Nat) (a0_0 : Int) (a0_1 : Int) (l0_2 : List Int) : Option (Bool) := (field_order.f k a0_0 a0_1).bind fun t132 => (if t132 = 0 then (field_shape.j0 k true a0_0 a0_1 l0_2) else ((field_isPrime.f k a0_0).bind fun t133 => (field_shape.j0 k (!t133) a0_0 a0_1 l0_2)))
theorem field_shape.calls (k : Nat) (a0_0 : Int) (a0_1 : Int) (A0_2 : Option Addr) (c0_2 : Nat) (l0_2 : List Int) (r : Bool) (w : World) (hr0_2 : Kd.C (Kd.int .i64) w A0_2 l0_2.length l0_2) (hc0_2 : l0_2.length ≤ c0_2) (h : field_shape.f k a0_0 a0_1 l0_2 = some r) :
  Calls Try.prog 65 #[.agg #[.int .i64 a0_0, .int .i64 a0_1, .slice A0_2 l0_2.length c0_2]] w fun e w' => e = .returned (.bool r) ∧ Below w.heap.size w w' := by
 have hu24 := Try.underlying24;have HR0_2 := Q9a.mk hr0_2;have HC0_2 := Q9a.mk hc0_2;clear hr0_2 hc0_2;have HB := Q9a.mk (Below.refl w.heap.size w);have H : ((field_order.f k a0_0 a0_1).bind fun t132 => (if t132 = 0 then (field_shape.j0 k true a0_0 a0_1 l0_2) else ((field_isPrime.f k a0_0).bind fun t133 => (field_shape.j0 k (!t133) a0_0 a0_1 l0_2)))) = some r := h;clear h;have HC2 := Q9a.mk H;clear H;go_enter Try.func65, Try.ntmps65
 go_upto_region 1 with (first | ((with_reducible refine gD (N := 1) rfl ?_); refine bE ?hg (N := 1) ?hd (cs := #[.int .i64 a0_0, .int .i64 a0_1, .slice A0_2 l0_2.length c0_2]) (t := 24) ?hr ?_; (case hd => rfl); (case hg => rfl); (case hr => first | (go_simp; done) | (go_simp; rfl)); intro gb131 hg w3 hbox hb; have n0_ := Q9a.mk (bP (by repeat (first | (with_reducible first | exact HB.out | apply bA | apply bN | apply bD) | exact HB.out)) hb); have n1_ := Q9a.mk (hbox); have n2_ := Q9a.mk ((by rw [hg]; exact (bZ (by repeat (first | (with_reducible first | exact HB.out | apply bA | apply bN | apply bD) | exact HB.out))) : w.heap.size ≤ gb131)); have n3_ := n2_; clear HB; have HB := n0_; have BK131 := n1_; have GW131 := n2_; have GE131 := n3_; clear n0_ n1_ n2_ n3_; clear hb hbox hg))
 (try simp only [Act.put, sz1, sz2, sz3])
 go_cut [16] (fun v16 wc => ∃ (kq : Nat) (x16_1 : Bool), v16 = .bool x16_1 ∧ Q9a (field_shape.j0 kq x16_1 a0_0 a0_1 l0_2 = some r) ∧ Q9a (kq ≤ k) ∧ Q9a (wc.heap[gb131]? = some (.cells #[.int .i64 a0_0, .int .i64 a0_1, (.slice A0_2 l0_2.length c0_2)] 24 (0, 0))) ∧ Q9a (Below w.heap.size w wc))
 case first =>
  have H := HC2.out;clear HC2;replace H := Option.bind_eq_some_iff.mp H;obtain ⟨t132, A40, H⟩ := H;replace H : (if t132 = 0 then (field_shape.j0 k true a0_0 a0_1 l0_2) else ((field_isPrime.f k a0_0).bind fun t133 => (field_shape.j0 k (!t133) a0_0 a0_1 l0_2))) = some r := H;have A4 := Q9a.mk A40;clear A40;by_cases c5 : t132 = 0
  ·rw [if_pos c5] at H;have c5b0 : (t132 == 0) = true := beq_iff_eq.mpr c5;have c5b1 : (t132 != 0) = false := bne_eq_false_iff_eq.mpr c5;clear c5;(first | rw [c5b0] | (simp only [i64_w, i32_w]; rw [c5b0]) | skip)
   have H' := Q9a.mk H;clear H;have hcz6_0 : w3.cell? ⟨gb131, 0, none⟩ = some (.int .i64 a0_0) := (kC BK131.out 0).trans rfl;have hcz6_1 : w3.cell? ⟨gb131, 1, none⟩ = some (.int .i64 a0_1) := (kC BK131.out 1).trans rfl;have hcz6_2 : w3.cell? ⟨gb131, 2, none⟩ = some (.slice A0_2 l0_2.length c0_2) := (kC BK131.out 2).trans rfl;have hfz6_0 := kF BK131.out 0;have hfz6_1 := kF BK131.out 1;have hfz6_2 := kF BK131.out 2;go_wp2_with (first | ((with_reducible refine gC (f := 66) rfl ?_); refine gL (some 9) rfl rfl Try.func66 (by kernel_rfl) rfl #[.int .i64 a0_0, .int .i64 a0_1] rfl (by (try simp only [sm1, sm2, sm3]); first | done | rfl | (simp only [sm4, sm5]; rfl)) ?_; (with_reducible refine (field_order.calls k a0_0 a0_1 t132 _ A4.out).mono ?_); rintro e w' ⟨rfl, ⟨nd, rfl⟩⟩; refine ⟨_, rfl, ?_⟩))
   go_meet
   case rel => exact ⟨_, (true), (by first | rfl | (simp; done) | (simp [*]; done)), H', ⟨by first | omega | exact Nat.le_refl _⟩, ⟨by (with_reducible repeat (first | refine kN ?_ _ | refine kD ?_ | refine kA ?_ _)); exact BK131.out⟩, ⟨by repeat (first | (with_reducible first | exact HB.out | apply bA | apply bN | apply bD | refine bS ?_ GE131.out) | exact HB.out)⟩⟩
  rw [if_neg c5] at H;have c5b0 : (t132 == 0) = false := beq_eq_false_iff_ne.mpr c5;have c5b1 : (t132 != 0) = true := bne_iff_ne.mpr c5;(first | rw [c5b0] | (simp only [i64_w, i32_w]; rw [c5b0]) | skip)
  replace H := Option.bind_eq_some_iff.mp H;obtain ⟨t133, A70, H⟩ := H;replace H : (field_shape.j0 k (!t133) a0_0 a0_1 l0_2) = some r := H;have A7 := Q9a.mk A70;clear A70;have H' := Q9a.mk H;clear H;have hcz8_0 : w3.cell? ⟨gb131, 0, none⟩ = some (.int .i64 a0_0) := (kC BK131.out 0).trans rfl;have hcz8_1 : w3.cell? ⟨gb131, 1, none⟩ = some (.int .i64 a0_1) := (kC BK131.out 1).trans rfl;have hcz8_2 : w3.cell? ⟨gb131, 2, none⟩ = some (.slice A0_2 l0_2.length c0_2) := (kC BK131.out 2).trans rfl;have hfz8_0 := kF BK131.out 0;have hfz8_1 := kF BK131.out 1;have hfz8_2 := kF BK131.out 2;go_wp2_with (first | ((with_reducible refine gC (f := 66) rfl ?_); refine gL (some 9) rfl rfl Try.func66 (by kernel_rfl) rfl #[.int .i64 a0_0, .int .i64 a0_1] rfl (by (try simp only [sm1, sm2, sm3]); first | done | rfl | (simp only [sm4, sm5]; rfl)) ?_; (with_reducible refine (field_order.calls k a0_0 a0_1 t132 _ A4.out).mono ?_); rintro e w' ⟨rfl, ⟨nd, rfl⟩⟩; refine ⟨_, rfl, ?_⟩) | (go_at_call 90; (with_reducible refine (field_isPrime.calls k a0_0 t133 _ A7.out).mono ?_); rintro e w' ⟨rfl, ⟨nd, rfl⟩⟩))
  go_meet
  case rel => exact ⟨_, (!t133), (by first | rfl | (simp; done) | (simp [*]; done)), H', ⟨by first | omega | exact Nat.le_refl _⟩, ⟨by (with_reducible repeat (first | refine kN ?_ _ | refine kD ?_ | refine kA ?_ _)); exact BK131.out⟩, ⟨by repeat (first | (with_reducible first | exact HB.out | apply bA | apply bN | apply bD | refine bS ?_ GE131.out) | exact HB.out)⟩⟩
 case rest =>
  clear HC2;try clear p2
  try clear c5
  try clear c5b0
  try clear c5b1
  try clear c6
  try clear hcz6_0
  try clear hcz6_1
  try clear hcz6_2
  try clear hcz8_0
  try clear hcz8_1
  try clear hcz8_2
  try clear hfz6_0
  try clear hfz6_1
  try clear hfz6_2
  try clear hfz8_0
  try clear hfz8_1
  try clear hfz8_2
  obtain ⟨kq, x16_1, rfl, HA, HJ1, BK131, HB⟩ := hcut
  cases kq with
  | zero => exact absurd HA.out (by simp [field_shape.j0])
  | succ kj1 =>
   have H := HA.out;clear HA;simp only [field_shape.j0] at H;by_cases c9 : x16_1 = true
   ·subst c9;have H1 : (some false) = some r := by rw [if_pos rfl] at H; exact H
    clear H;have H := H1;clear H1;obtain rfl := Option.some.inj H;go_wp2
    go_ret
    exact ⟨by first | rfl | (simp [*, eN, eS] <;> rfl), by repeat (first | (with_reducible first | exact HB.out | apply bA | apply bN | apply bD | refine bS ?_ GE131.out) | exact HB.out)⟩
   replace c9 := Bool.eq_false_iff.mpr c9;subst c9;have H1 : (if a0_1 = 1 then (some ((l0_2.length : Int) == 0)) else (if (l0_2.length : Int) = a0_1 then (field_shape.l0 kj1 l0_2 (l0_2.length : Int) 0 a0_0 a0_1 l0_2) else (some false))) = some r := by rw [if_neg (show ¬ (false = true) by decide)] at H; exact H
   clear H;have H := H1;clear H1;by_cases c10 : a0_1 = 1
   ·rw [if_pos c10] at H;have c10b0 : (a0_1 == 1) = true := beq_iff_eq.mpr c10;have c10b1 : (a0_1 != 1) = false := bne_eq_false_iff_eq.mpr c10;clear c10;obtain rfl := Option.some.inj H;have hcz11_0 : wc.cell? ⟨gb131, 0, none⟩ = some (.int .i64 a0_0) := (kC BK131.out 0).trans rfl;have hcz11_1 : wc.cell? ⟨gb131, 1, none⟩ = some (.int .i64 a0_1) := (kC BK131.out 1).trans rfl;have hcz11_2 : wc.cell? ⟨gb131, 2, none⟩ = some (.slice A0_2 l0_2.length c0_2) := (kC BK131.out 2).trans rfl;have hfz11_0 := kF BK131.out 0;have hfz11_1 := kF BK131.out 1;have hfz11_2 := kF BK131.out 2;go_wp2
    go_ret
    exact ⟨by first | rfl | (simp [*, eN, eS] <;> rfl), by repeat (first | (with_reducible first | exact HB.out | apply bA | apply bN | apply bD | refine bS ?_ GE131.out) | exact HB.out)⟩
   rw [if_neg c10] at H;have c10b0 : (a0_1 == 1) = false := beq_eq_false_iff_ne.mpr c10;have c10b1 : (a0_1 != 1) = true := bne_iff_ne.mpr c10;by_cases c12 : (l0_2.length : Int) = a0_1
   ·rw [if_pos c12] at H;have c12b0 : ((l0_2.length : Int) == a0_1) = true := beq_iff_eq.mpr c12;have c12b1 : ((l0_2.length : Int) != a0_1) = false := bne_eq_false_iff_eq.mpr c12;clear c12;have H' := Q9a.mk H;clear H;have hcz13_0 : wc.cell? ⟨gb131, 0, none⟩ = some (.int .i64 a0_0) := (kC BK131.out 0).trans rfl;have hcz13_1 : wc.cell? ⟨gb131, 1, none⟩ = some (.int .i64 a0_1) := (kC BK131.out 1).trans rfl;have hcz13_2 : wc.cell? ⟨gb131, 2, none⟩ = some (.slice A0_2 l0_2.length c0_2) := (kC BK131.out 2).trans rfl;have hfz13_0 := kF BK131.out 0;have hfz13_1 := kF BK131.out 1;have hfz13_2 := kF BK131.out 2;go_wp2
    go_loopg [33] kj1 (fun kq v33 w' => ∃ (x33_2 : Int), v33 = .int .i64 x33_2 ∧ Q9a (field_shape.l0 kq l0_2 (l0_2.length : Int) x33_2 a0_0 a0_1 l0_2 = some r) ∧ Q9a (kq ≤ kj1) ∧ Q9a (w'.heap[gb131]? = some (.cells #[.int .i64 a0_0, .int .i64 a0_1, (.slice A0_2 l0_2.length c0_2)] 24 (0, 0))) ∧ Q9a (Below w.heap.size w w'))
    case atStart => exact ⟨(0), (by first | rfl | (simp; done) | (simp [*]; done)), H', ⟨Nat.le_refl _⟩, ⟨by (with_reducible repeat (first | refine kN ?_ _ | refine kD ?_ | refine kA ?_ _)); exact BK131.out⟩, ⟨by repeat (first | (with_reducible first | exact HB.out | apply bA | apply bN | apply bD | refine bS ?_ GE131.out) | exact HB.out)⟩⟩
    case round =>
     clear H';try clear c1
     try clear p2
     try clear c5
     try clear c5b0
     try clear c5b1
     try clear c6
     try clear c9
     try clear c10
     try clear c10b0
     try clear c10b1
     try clear c12
     try clear c12b0
     try clear c12b1
     try clear hcz11_0
     try clear hcz11_1
     try clear hcz11_2
     try clear hcz13_0
     try clear hcz13_1
     try clear hcz13_2
     try clear hcz6_0
     try clear hcz6_1
     try clear hcz6_2
     try clear hcz8_0
     try clear hcz8_1
     try clear hcz8_2
     try clear hfz11_0
     try clear hfz11_1
     try clear hfz11_2
     try clear hfz13_0
     try clear hfz13_1
     try clear hfz13_2
     try clear hfz6_0
     try clear hfz6_1
     try clear hfz6_2
     try clear hfz8_0
     try clear hfz8_1
     try clear hfz8_2
     try clear p2
     obtain ⟨x33_2, rfl, HA, HK2, BK131, HB⟩ := hrel
     cases gk with
     | zero => exact absurd HA.out (by simp [field_shape.l0])
     | succ k2 =>
      have H := HA.out;clear HA;simp only [field_shape.l0] at H;by_cases c14 : x33_2 < (l0_2.length : Int)
      ·rw [if_pos c14] at H;have c14b0 : decide (x33_2 < (l0_2.length : Int)) = true := decide_eq_true c14;clear c14;by_cases c15 : 0 ≤ x33_2
       ·rw [if_pos c15] at H;have c15b0 : decide (0 ≤ x33_2) = true := decide_eq_true c15;clear c15;by_cases c16 : x33_2 < (l0_2.length : Int)
        ·rw [if_pos c16] at H;have c16b0 : decide (x33_2 < (l0_2.length : Int)) = true := decide_eq_true c16;clear c16;by_cases c17 : (rd l0_2 x33_2) < 0
         ·rw [if_pos c17] at H;have c17b0 : decide ((rd l0_2 x33_2) < 0) = true := decide_eq_true c17;clear c17;obtain rfl := Option.some.inj H;have p134 : 0 ≤ (x33_2 : Int) := of_decide_eq_true (by first | (with_reducible assumption) | assumption);have q134 : x33_2 < (l0_2.length : Int) := of_decide_eq_true (by first | (with_reducible assumption) | assumption);obtain ⟨ad134, e134, hx134_0⟩ := Kd.at_int HR0_2.out x33_2 p134 q134
          cases e134
          replace hx134_0 := (HB.out.cell (World.block_lt_of_cell? w _ hx134_0)).trans hx134_0;replace p134 := eq_true p134;replace q134 := eq_true q134;go_wp2
          go_ret
          exact ⟨by first | rfl | (simp [*, eN, eS] <;> rfl), by repeat (first | (with_reducible first | exact HB.out | apply bA | apply bN | apply bD | refine bS ?_ GE131.out) | exact HB.out)⟩
         rw [if_neg c17] at H;have c17b0 : decide ((rd l0_2 x33_2) < 0) = false := decide_eq_false c17;clear c17;by_cases c18 : (rd l0_2 x33_2) ≥ a0_0
         ·rw [if_pos c18] at H;have c18b0 : decide (a0_0 ≤ (rd l0_2 x33_2)) = true := decide_eq_true c18;clear c18;obtain rfl := Option.some.inj H;have p134 : 0 ≤ (x33_2 : Int) := of_decide_eq_true (by first | (with_reducible assumption) | assumption);have q134 : x33_2 < (l0_2.length : Int) := of_decide_eq_true (by first | (with_reducible assumption) | assumption);obtain ⟨ad134, e134, hx134_0⟩ := Kd.at_int HR0_2.out x33_2 p134 q134
          cases e134
          replace hx134_0 := (HB.out.cell (World.block_lt_of_cell? w _ hx134_0)).trans hx134_0;replace p134 := eq_true p134;replace q134 := eq_true q134;have hcz19_0 : wr.cell? ⟨gb131, 0, none⟩ = some (.int .i64 a0_0) := (kC BK131.out 0).trans rfl;have hcz19_1 : wr.cell? ⟨gb131, 1, none⟩ = some (.int .i64 a0_1) := (kC BK131.out 1).trans rfl;have hcz19_2 : wr.cell? ⟨gb131, 2, none⟩ = some (.slice (some ad134) l0_2.length c0_2) := (kC BK131.out 2).trans rfl;have hfz19_0 := kF BK131.out 0;have hfz19_1 := kF BK131.out 1;have hfz19_2 := kF BK131.out 2;go_wp2
          go_ret
          exact ⟨by first | rfl | (simp [*, eN, eS] <;> rfl), by repeat (first | (with_reducible first | exact HB.out | apply bA | apply bN | apply bD | refine bS ?_ GE131.out) | exact HB.out)⟩
         rw [if_neg c18] at H;have c18b0 : decide (a0_0 ≤ (rd l0_2 x33_2)) = false := decide_eq_false c18;clear c18;have H' := Q9a.mk H;clear H;have p134 : 0 ≤ (x33_2 : Int) := of_decide_eq_true (by first | (with_reducible assumption) | assumption);have q134 : x33_2 < (l0_2.length : Int) := of_decide_eq_true (by first | (with_reducible assumption) | assumption);obtain ⟨ad134, e134, hx134_0⟩ := Kd.at_int HR0_2.out x33_2 p134 q134
         cases e134
         replace hx134_0 := (HB.out.cell (World.block_lt_of_cell? w _ hx134_0)).trans hx134_0;replace p134 := eq_true p134;replace q134 := eq_true q134;have hcz20_0 : wr.cell? ⟨gb131, 0, none⟩ = some (.int .i64 a0_0) := (kC BK131.out 0).trans rfl;have hcz20_1 : wr.cell? ⟨gb131, 1, none⟩ = some (.int .i64 a0_1) := (kC BK131.out 1).trans rfl;have hcz20_2 : wr.cell? ⟨gb131, 2, none⟩ = some (.slice (some ad134) l0_2.length c0_2) := (kC BK131.out 2).trans rfl;have hfz20_0 := kF BK131.out 0;have hfz20_1 := kF BK131.out 1;have hfz20_2 := kF BK131.out 2;go_wp2
         go_roundg k2
         case measure => have := HJ1.out; have := HK2.out; omega
         case rel => exact ⟨(wrap64 (x33_2 + 1)), (by first | rfl | (simp; done) | (simp [*]; done)), H', ⟨by have := HJ1.out; have := HK2.out; omega⟩, ⟨by (with_reducible repeat (first | refine kN ?_ _ | refine kD ?_ | refine kA ?_ _)); exact BK131.out⟩, ⟨by repeat (first | (with_reducible first | exact HB.out | apply bA | apply bN | apply bD | refine bS ?_ GE131.out) | exact HB.out)⟩⟩
        rw [if_neg c16] at H;exact absurd H (by simp)
       rw [if_neg c15] at H;exact absurd H (by simp)
      rw [if_neg c14] at H;have c14b0 : decide (x33_2 < (l0_2.length : Int)) = false := decide_eq_false c14;clear c14;obtain rfl := Option.some.inj H;go_wp2
      go_ret
      exact ⟨by first | rfl | (simp [*, eN, eS] <;> rfl), by repeat (first | (with_reducible first | exact HB.out | apply bA | apply bN | apply bD | refine bS ?_ GE131.out) | exact HB.out)⟩
   rw [if_neg c12] at H;have c12b0 : ((l0_2.length : Int) == a0_1) = false := beq_eq_false_iff_ne.mpr c12;have c12b1 : ((l0_2.length : Int) != a0_1) = true := bne_iff_ne.mpr c12;obtain rfl := Option.some.inj H;have hcz21_0 : wc.cell? ⟨gb131, 0, none⟩ = some (.int .i64 a0_0) := (kC BK131.out 0).trans rfl;have hcz21_1 : wc.cell? ⟨gb131, 1, none⟩ = some (.int .i64 a0_1) := (kC BK131.out 1).trans rfl;have hcz21_2 : wc.cell? ⟨gb131, 2, none⟩ = some (.slice A0_2 l0_2.length c0_2) := (kC BK131.out 2).trans rfl;have hfz21_0 := kF BK131.out 0;have hfz21_1 := kF BK131.out 1;have hfz21_2 := kF BK131.out 2;go_wp2
   go_ret
   exact ⟨by first | rfl | (simp [*, eN, eS] <;> rfl), by repeat (first | (with_reducible first | exact HB.out | apply bA | apply bN | apply bD | refine bS ?_ GE131.out) | exact HB.out)⟩
def field_digitsOf.l0 : Nat → Int → Int → List Int → Int → Int → Option (List Int)
 | 0, _, _, _, _, _ => none
 | k + 1, x0, x1, x7, x12, x13 => if x13 < x12 then (if x1 = 0 then (none) else (if 0 ≤ x13 then (if x13 < (x7.length : Int) then (field_digitsOf.l0 k (wrap64 (Int.tdiv x0 x1)) x1 (x7.set (x13 : Int).toNat (Int.tmod x0 x1)) x12 (wrap64 (x13 + 1))) else (none)) else (none))) else (some x7)
def field_digitsOf.f (k : Nat) (a0 : Int) (a1 : Int) (a2 : Int) : Option (List Int) := if 0 ≤ a2 then (if (a2 : Int).toNat ≤ 35184372088832 then ((some (List.replicate (a2 : Int).toNat 0 : List Int)).bind fun y135 => (field_digitsOf.l0 k a0 a1 y135 (y135.length : Int) 0)) else (none)) else (none)
theorem field_digitsOf.calls (k : Nat) (a0 : Int) (a1 : Int) (a2 : Int) (r : List Int) (w : World) (h : field_digitsOf.f k a0 a1 a2 = some r) :
  Calls Try.prog 87 #[.int .i64 a0, .int .i64 a1, .int .i64 a2] w fun e w' => ∃ v0_ : Value, e = .returned (v0_) ∧ Kd.R (Kd.int .i64) 3 w' w.heap.size (fun _ => True) v0_ r ∧ Below w.heap.size w w' := by
 have HB := Q9a.mk (Below.refl w.heap.size w);have H : (if 0 ≤ a2 then (if (a2 : Int).toNat ≤ 35184372088832 then ((some (List.replicate (a2 : Int).toNat 0 : List Int)).bind fun y135 => (field_digitsOf.l0 k a0 a1 y135 (y135.length : Int) 0)) else (none)) else (none)) = some r := h;clear h;by_cases c4 : 0 ≤ a2
 ·rw [if_pos c4] at H;have c4b0 := eq_true c4;have c4b1 : decide (0 ≤ a2) = true := decide_eq_true c4;clear c4;by_cases c5 : (a2 : Int).toNat ≤ 35184372088832
  ·rw [if_pos c5] at H;have c5b0 := eq_true c5;have c5b1 : decide ((a2 : Int).toNat ≤ 35184372088832) = true := decide_eq_true c5;clear c5;obtain ⟨y135, hy135⟩ : ∃ y_ : List Int, y_ = (List.replicate (a2 : Int).toNat 0) := ⟨_, rfl⟩;replace H : (field_digitsOf.l0 k a0 a1 y135 (y135.length : Int) 0) = some r := by first | (rw [hy135]; with_reducible exact H) | (have H2_ := (Option.bind_some _ _).symm.trans H; rw [hy135]; with_reducible exact H2_) | (have H2_ := (Option.bind_some _ _).symm.trans H; with_reducible exact H2_) | with_reducible exact H | (rw [hy135]; exact H) | exact H
   have Ny135 := Q9a.mk hy135;clear hy135;have H' := Q9a.mk H;clear H;go_enter Try.func87, Try.ntmps87
   go_wp2_with (first | ((with_reducible refine gD (N := 10) rfl ?_); refine Kd.R_make (Kd.int .i64) _ 3 rfl (N := 10) rfl 22 _ _ rfl a2 rfl rfl Try.underlying22 (.int .i64 0) 8 info3 rfl (by decide) (by omega) 0 (ok := fun _ => True) (okp := fun _ => True) rfl (fun _ hk => hk) trivial (of_decide_eq_true (by first | (with_reducible assumption) | assumption)) (Nat.le_trans (Nat.mul_le_mul_right _ (of_decide_eq_true (by first | (with_reducible assumption) | assumption) : a2.toNat ≤ 35184372088832)) (by omega)) (Below.refl _ _) (Nat.le_refl _) ?_; intro v136 w6 ho7 hb hg_ hnew_; clear hg_ hnew_; (first | rw [← Ny135.out] at ho7 | (simp only [Int.reduceToNat] at ho7; rw [← Ny135.out] at ho7)); have n0_ := Q9a.mk (Kd.rL ho7 (bZ (by repeat (first | (with_reducible first | exact HB.out | apply bA | apply bN | apply bD) | exact HB.out)))); have n1_ := Q9a.mk (bP (by repeat (first | (with_reducible first | exact HB.out | apply bA | apply bN | apply bD) | exact HB.out)) hb); clear HB; have HO137 := n0_; have HB := n1_; clear n0_ n1_; clear hb ho7; obtain ⟨Ao8, co8, eo8⟩ := Kd.R_slice HO137.out; subst eo8))
   go_loopg [0, 13] k (fun kq v0 v13 w' => ∃ (x0_1 : Int) (x7_1 : List Int) (x13_1 : Int), v0 = .int .i64 x0_1 ∧ v13 = .int .i64 x13_1 ∧ Q9a (field_digitsOf.l0 kq x0_1 a1 x7_1 (y135.length : Int) x13_1 = some r) ∧ Q9a (kq ≤ k) ∧ Q9a (Kd.R (Kd.int .i64) 3 w' w.heap.size (fun _ => True) (.slice Ao8 y135.length co8) x7_1) ∧ Q9a (Below w.heap.size w w'))
   case atStart => exact ⟨(a0), (y135), (0), (by first | rfl | (simp; done) | (simp [*]; done)), (by first | rfl | (simp; done) | (simp [*]; done)), H', ⟨Nat.le_refl _⟩, ⟨by (with_reducible repeat (first | apply Kd.rA | apply Kd.rN | apply Kd.rD)); exact HO137.out⟩, ⟨by repeat (first | (with_reducible first | exact HB.out | apply bA | apply bN | apply bD) | exact HB.out)⟩⟩
   case round =>
    clear H';try clear p2
    try clear c4
    try clear c4b0
    try clear c4b1
    try clear c5
    try clear c5b0
    try clear c5b1
    try clear c8
    obtain ⟨x0_1, x7_1, x13_1, rfl, rfl, HA, HK1, HO_7, HB⟩ := hrel;have hl7_1 := (Kd.R_reads' HO_7.out).1;rw [hl7_1] at HO_7;(try simp only [hl7_1])
    cases gk with
    | zero => exact absurd HA.out (by simp [field_digitsOf.l0])
    | succ k1 =>
     have H := HA.out;clear HA;simp only [field_digitsOf.l0] at H;by_cases c9 : x13_1 < (y135.length : Int)
     ·rw [if_pos c9] at H;have c9b0 : decide (x13_1 < (y135.length : Int)) = true := decide_eq_true c9;(try (have c9b0h := c9b0; rw [hl7_1] at c9b0h))
      clear c9;by_cases c10 : a1 = 0
      ·rw [if_pos c10] at H;exact absurd H (by simp)
      rw [if_neg c10] at H;have c10b0 : (a1 == 0) = false := beq_eq_false_iff_ne.mpr c10;have c10b1 : (a1 != 0) = true := bne_iff_ne.mpr c10;by_cases c11 : 0 ≤ x13_1
      ·rw [if_pos c11] at H;have c11b0 : decide (0 ≤ x13_1) = true := decide_eq_true c11;clear c11;by_cases c12 : x13_1 < (x7_1.length : Int)
       ·rw [if_pos c12] at H;have c12b0 : decide (x13_1 < (x7_1.length : Int)) = true := decide_eq_true c12;(try (have c12b0h := c12b0; rw [hl7_1] at c12b0h))
        clear c12;obtain ⟨y138, hy138⟩ : ∃ y_ : List Int, y_ = (x7_1.set (x13_1 : Int).toNat (Int.tmod x0_1 a1)) := ⟨_, rfl⟩;replace H : (field_digitsOf.l0 k1 (wrap64 (Int.tdiv x0_1 a1)) a1 y138 (y135.length : Int) (wrap64 (x13_1 + 1))) = some r := by first | (rw [hy138]; with_reducible exact H) | (have H2_ := (Option.bind_some _ _).symm.trans H; rw [hy138]; with_reducible exact H2_) | (have H2_ := (Option.bind_some _ _).symm.trans H; with_reducible exact H2_) | with_reducible exact H | (rw [hy138]; exact H) | exact H
        have Ny138 := Q9a.mk hy138;clear hy138;have H' := Q9a.mk H;clear H;have p13 : 0 ≤ (x13_1 : Int) := of_decide_eq_true (by first | (with_reducible assumption) | assumption);have q13 : (x13_1 : Int) < ((x7_1.length : Int) : Int) := of_decide_eq_true (by first | (with_reducible assumption) | assumption);obtain ⟨go13, co13, eo13, gb13, gl13, cl13, HG13⟩ := Kd.R_form HO_7.out (by omega);(first | cases eo13 | (injection eo13 with ea_ en_ ec_; (first | subst ea_ | (injection ea_ with ea_; subst ea_)); subst ec_; clear en_))
        have GB13 := Q9a.mk gb13;have GG13 := Q9a.mk HG13;clear gb13 gl13 HG13;obtain ⟨hx13_0, hf13_0⟩ := Kd.R_celln 0 HO_7.out (x13_1 : Int) p13 q13;replace p13 := eq_true p13;replace q13 := eq_true q13;have HP14 := Kd.R_putg HO_7.out (x13_1 : Int) (Int.tmod x0_1 a1);go_wp2_with (first | ((with_reducible refine gate_store (t := 3) (p := 21) rfl ?_); refine store_event (t := 3) (p := 21) (v := ?vo_w15) (w1 := (wr.setCell ⟨go13, (x13_1 : Int).toNat, none⟩ (.int .i64 (Int.tmod x0_1 a1)))) ?hg ?ho ?hn ?hr ?_; (case ho => rfl); (case hg => rfl); (case hn => rfl); (case hr => first | (go_simp; done) | (go_simp; rfl)); intro w15 hw; have hg : wr.grownBy w15 (some go13) := (by rw [hw]; exact HP14.2); have hp_ : Kd.R (Kd.int .i64) 3 w15 w.heap.size (fun _ => True) (.slice (some ⟨go13, 0, none⟩) x7_1.length co8) y138 := (by rw [hw, Ny138.out]; exact HP14.1); clear HP14; have n0_ := Q9a.mk (hp_); have n1_ := Q9a.mk ((by rw [hw]; exact bS (HB.out) GB13.out : Below w.heap.size w w15)); clear HO_7; clear HB; have HO_7 := n0_; have HB := n1_; clear n0_ n1_; clear hg hw hp_))
        (try simp only [← hl7_1])
        go_roundg k1
        case measure => have := HK1.out; omega
        case rel => exact ⟨(wrap64 (Int.tdiv x0_1 a1)), (y138), (wrap64 (x13_1 + 1)), (by first | rfl | (simp; done) | (simp [*]; done)), (by first | rfl | (simp; done) | (simp [*]; done)), H', ⟨by have := HK1.out; omega⟩, ⟨by (try simp only [hl7_1]); (with_reducible repeat (first | apply Kd.rA | apply Kd.rN | apply Kd.rD)); exact HO_7.out⟩, ⟨by repeat (first | (with_reducible first | exact HB.out | apply bA | apply bN | apply bD) | exact HB.out)⟩⟩
       rw [if_neg c12] at H;exact absurd H (by simp)
      rw [if_neg c11] at H;exact absurd H (by simp)
     rw [if_neg c9] at H;have c9b0 : decide (x13_1 < (y135.length : Int)) = false := decide_eq_false c9;(try (have c9b0h := c9b0; rw [hl7_1] at c9b0h))
     clear c9;obtain rfl := Option.some.inj H;go_wp2
     go_ret
     exact ⟨_, by first | rfl | (simp [*, eN, eS] <;> rfl), by (with_reducible repeat (first | apply Kd.rA | apply Kd.rN | apply Kd.rD)); exact HO_7.out, by repeat (first | (with_reducible first | exact HB.out | apply bA | apply bN | apply bD) | exact HB.out)⟩
  rw [if_neg c5] at H;exact absurd H (by simp)
 rw [if_neg c4] at H;exact absurd H (by simp)
def field_valueOf.l0 : Nat → List Int → Int → Int → Int → Option (Int)
 | 0, _, _, _, _ => none
 | k + 1, x0, x1, x5, x6 => if x6 ≥ 0 then (if 0 ≤ x6 then (if x6 < (x0.length : Int) then (field_valueOf.l0 k x0 x1 (wrap64 ((wrap64 (x5 * x1)) + (rd x0 x6))) (wrap64 (x6 - 1))) else (none)) else (none)) else (some x5)
def field_valueOf.f (k : Nat) (l0 : List Int) (a1 : Int) : Option (Int) := field_valueOf.l0 k l0 a1 0 (wrap64 ((l0.length : Int) - 1))
theorem field_valueOf.calls (k : Nat) (A0 : Option Addr) (c0 : Nat) (l0 : List Int) (a1 : Int) (r : Int) (w : World) (hr0 : Kd.C (Kd.int .i64) w A0 l0.length l0) (hc0 : l0.length ≤ c0) (h : field_valueOf.f k l0 a1 = some r) :
  Calls Try.prog 96 #[.slice A0 l0.length c0, .int .i64 a1] w fun e w' => e = .returned (.int .i64 r) ∧ Drawn0 w w' := by
 have HR0 := Q9a.mk hr0;have HC0 := Q9a.mk hc0;clear hr0 hc0;have H : (field_valueOf.l0 k l0 a1 0 (wrap64 ((l0.length : Int) - 1))) = some r := h;clear h;have H' := Q9a.mk H;clear H;go_enter Try.func96, Try.ntmps96
 go_wp2
 go_loopg [5, 6] k (fun kq v5 v6 w' => ∃ (x5_1 : Int) (x6_1 : Int), v5 = .int .i64 x5_1 ∧ v6 = .int .i64 x6_1 ∧ Q9a (field_valueOf.l0 kq l0 a1 x5_1 x6_1 = some r) ∧ Q9a (kq ≤ k) ∧ Drawn0 w w')
 case atStart => exact ⟨(0), (wrap64 ((l0.length : Int) - 1)), (by first | rfl | (simp; done) | (simp [*]; done)), (by first | rfl | (simp; done) | (simp [*]; done)), H', ⟨Nat.le_refl _⟩, by repeat (first | exact Drawn0.refl _ | apply Drawn0.step)⟩
 case round =>
  clear H';try clear p2
  obtain ⟨x5_1, x6_1, rfl, rfl, HA, HK1, ⟨m1, rfl⟩⟩ := hrel
  cases gk with
  | zero => exact absurd HA.out (by simp [field_valueOf.l0])
  | succ k1 =>
   have H := HA.out;clear HA;simp only [field_valueOf.l0] at H;by_cases c3 : x6_1 ≥ 0
   ·rw [if_pos c3] at H;have c3b0 : decide (0 ≤ x6_1) = true := decide_eq_true c3;clear c3;by_cases c4 : 0 ≤ x6_1
    ·rw [if_pos c4] at H;have c4b0 : decide (0 ≤ x6_1) = true := decide_eq_true c4;clear c4;by_cases c5 : x6_1 < (l0.length : Int)
     ·rw [if_pos c5] at H;have c5b0 : decide (x6_1 < (l0.length : Int)) = true := decide_eq_true c5;clear c5;have H' := Q9a.mk H;clear H;have p139 : 0 ≤ (x6_1 : Int) := of_decide_eq_true (by first | (with_reducible assumption) | assumption);have q139 : x6_1 < (l0.length : Int) := of_decide_eq_true (by first | (with_reducible assumption) | assumption);obtain ⟨ad139, e139, hx139_0⟩ := Kd.at_int HR0.out x6_1 p139 q139
      cases e139
      replace p139 := eq_true p139;replace q139 := eq_true q139;go_wp2
      go_roundg k1
      case measure => have := HK1.out; omega
      case rel => exact ⟨(wrap64 ((wrap64 (x5_1 * a1)) + (rd l0 x6_1))), (wrap64 (x6_1 - 1)), (by first | rfl | (simp; done) | (simp [*]; done)), (by first | rfl | (simp; done) | (simp [*]; done)), H', ⟨by have := HK1.out; omega⟩, by repeat (first | exact Drawn0.refl _ | apply Drawn0.step)⟩
     rw [if_neg c5] at H;exact absurd H (by simp)
    rw [if_neg c4] at H;exact absurd H (by simp)
   rw [if_neg c3] at H;have c3b0 : decide (0 ≤ x6_1) = false := decide_eq_false c3;clear c3;obtain rfl := Option.some.inj H;go_wp2
   go_ret
   exact ⟨by first | rfl | (simp; done) | (simp [*]; done), by repeat (first | exact Drawn0.refl _ | apply Drawn0.step)⟩
def l7same.l0 : Nat → List Int → List Int → Int → Int → Option (Bool)
 | 0, _, _, _, _ => none
 | k + 1, x0, x1, x12, x13 => if x13 < x12 then (if 0 ≤ x13 then (if x13 < (x0.length : Int) then (if x13 < (x1.length : Int) then (if (rd x0 x13) = (rd x1 x13) then (l7same.l0 k x0 x1 x12 (wrap64 (x13 + 1))) else (some false)) else (none)) else (none)) else (none)) else (some true)
def l7same.f (k : Nat) (l0 : List Int) (l1 : List Int) : Option (Bool) := if (l0.length : Int) = (l1.length : Int) then (l7same.l0 k l0 l1 (l0.length : Int) 0) else (some false)
theorem l7same.calls (k : Nat) (A0 : Option Addr) (c0 : Nat) (l0 : List Int) (A1 : Option Addr) (c1 : Nat) (l1 : List Int) (r : Bool) (w : World) (hr0 : Kd.C (Kd.int .i64) w A0 l0.length l0) (hc0 : l0.length ≤ c0) (hr1 : Kd.C (Kd.int .i64) w A1 l1.length l1) (hc1 : l1.length ≤ c1) (h : l7same.f k l0 l1 = some r) :
  Calls Try.prog 18 #[.slice A0 l0.length c0, .slice A1 l1.length c1] w fun e w' => e = .returned (.bool r) ∧ Drawn0 w w' := by
 have HR0 := Q9a.mk hr0;have HC0 := Q9a.mk hc0;clear hr0 hc0;have HR1 := Q9a.mk hr1;have HC1 := Q9a.mk hc1;clear hr1 hc1;have H : (if (l0.length : Int) = (l1.length : Int) then (l7same.l0 k l0 l1 (l0.length : Int) 0) else (some false)) = some r := h;clear h;by_cases c3 : (l0.length : Int) = (l1.length : Int)
 ·rw [if_pos c3] at H;have c3b0 : ((l0.length : Int) == (l1.length : Int)) = true := beq_iff_eq.mpr c3;have c3b1 : ((l0.length : Int) != (l1.length : Int)) = false := bne_eq_false_iff_eq.mpr c3;have c3b2 : (l0.length == l1.length) = true := by first | simpa using c3 | (simp at c3 ⊢; omega)
  clear c3;have H' := Q9a.mk H;clear H;go_enter Try.func18, Try.ntmps18
  go_wp2
  repeat (go_quiet (fail); try go_wp2)
  go_loopg [13] k (fun kq v13 w' => ∃ (x13_1 : Int), v13 = .int .i64 x13_1 ∧ Q9a (l7same.l0 kq l0 l1 (l0.length : Int) x13_1 = some r) ∧ Q9a (kq ≤ k) ∧ Drawn0 w w')
  case atStart => exact ⟨(0), (by first | rfl | (simp; done) | (simp [*]; done)), H', ⟨Nat.le_refl _⟩, by repeat (first | exact Drawn0.refl _ | apply Drawn0.step)⟩
  case round =>
   clear H';try clear c1
   try clear p2
   try clear c3
   try clear c3b0
   try clear c3b1
   try clear c3b2
   obtain ⟨x13_1, rfl, HA, HK1, ⟨m1, rfl⟩⟩ := hrel
   cases gk with
   | zero => exact absurd HA.out (by simp [l7same.l0])
   | succ k1 =>
    have H := HA.out;clear HA;simp only [l7same.l0] at H;by_cases c4 : x13_1 < (l0.length : Int)
    ·rw [if_pos c4] at H;have c4b0 : decide (x13_1 < (l0.length : Int)) = true := decide_eq_true c4;clear c4;by_cases c5 : 0 ≤ x13_1
     ·rw [if_pos c5] at H;have c5b0 : decide (0 ≤ x13_1) = true := decide_eq_true c5;clear c5;by_cases c6 : x13_1 < (l0.length : Int)
      ·rw [if_pos c6] at H;have c6b0 : decide (x13_1 < (l0.length : Int)) = true := decide_eq_true c6;clear c6;by_cases c7 : x13_1 < (l1.length : Int)
       ·rw [if_pos c7] at H;have c7b0 : decide (x13_1 < (l1.length : Int)) = true := decide_eq_true c7;clear c7;by_cases c8 : (rd l0 x13_1) = (rd l1 x13_1)
        ·rw [if_pos c8] at H;have c8b0 : ((rd l0 x13_1) == (rd l1 x13_1)) = true := beq_iff_eq.mpr c8;have c8b1 : ((rd l0 x13_1) != (rd l1 x13_1)) = false := bne_eq_false_iff_eq.mpr c8;clear c8;have H' := Q9a.mk H;clear H;have p178 : 0 ≤ (x13_1 : Int) := of_decide_eq_true (by first | (with_reducible assumption) | assumption);have q178 : x13_1 < (l0.length : Int) := of_decide_eq_true (by first | (with_reducible assumption) | assumption);obtain ⟨ad178, e178, hx178_0⟩ := Kd.at_int HR0.out x13_1 p178 q178
         cases e178
         replace p178 := eq_true p178;replace q178 := eq_true q178;have p179 : 0 ≤ (x13_1 : Int) := of_decide_eq_true (by first | (with_reducible assumption) | assumption);have q179 : x13_1 < (l1.length : Int) := of_decide_eq_true (by first | (with_reducible assumption) | assumption);obtain ⟨ad179, e179, hx179_0⟩ := Kd.at_int HR1.out x13_1 p179 q179
         cases e179
         replace p179 := eq_true p179;replace q179 := eq_true q179;go_wp2
         repeat (go_quiet (fail); try go_wp2)
         go_roundg k1
         case measure => have := HK1.out; omega
         case rel => exact ⟨(wrap64 (x13_1 + 1)), (by first | rfl | (simp; done) | (simp [*]; done)), H', ⟨by have := HK1.out; omega⟩, by repeat (first | exact Drawn0.refl _ | apply Drawn0.step)⟩
        rw [if_neg c8] at H;have c8b0 : ((rd l0 x13_1) == (rd l1 x13_1)) = false := beq_eq_false_iff_ne.mpr c8;have c8b1 : ((rd l0 x13_1) != (rd l1 x13_1)) = true := bne_iff_ne.mpr c8;obtain rfl := Option.some.inj H;have p178 : 0 ≤ (x13_1 : Int) := of_decide_eq_true (by first | (with_reducible assumption) | assumption);have q178 : x13_1 < (l0.length : Int) := of_decide_eq_true (by first | (with_reducible assumption) | assumption);obtain ⟨ad178, e178, hx178_0⟩ := Kd.at_int HR0.out x13_1 p178 q178
        cases e178
        replace p178 := eq_true p178;replace q178 := eq_true q178;have p179 : 0 ≤ (x13_1 : Int) := of_decide_eq_true (by first | (with_reducible assumption) | assumption);have q179 : x13_1 < (l1.length : Int) := of_decide_eq_true (by first | (with_reducible assumption) | assumption);obtain ⟨ad179, e179, hx179_0⟩ := Kd.at_int HR1.out x13_1 p179 q179
        cases e179
        replace p179 := eq_true p179;replace q179 := eq_true q179;go_wp2
        repeat (go_quiet (fail); try go_wp2)
        go_ret
        exact ⟨by first | rfl | (simp; done) | (simp [*]; done), by repeat (first | exact Drawn0.refl _ | apply Drawn0.step)⟩
       rw [if_neg c7] at H;exact absurd H (by simp)
      rw [if_neg c6] at H;exact absurd H (by simp)
     rw [if_neg c5] at H;exact absurd H (by simp)
    rw [if_neg c4] at H;have c4b0 : decide (x13_1 < (l0.length : Int)) = false := decide_eq_false c4;clear c4;obtain rfl := Option.some.inj H;go_wp2
    repeat (go_quiet (fail); try go_wp2)
    go_ret
    exact ⟨by first | rfl | (simp; done) | (simp [*]; done), by repeat (first | exact Drawn0.refl _ | apply Drawn0.step)⟩
 rw [if_neg c3] at H;have c3b0 : ((l0.length : Int) == (l1.length : Int)) = false := beq_eq_false_iff_ne.mpr c3;have c3b1 : ((l0.length : Int) != (l1.length : Int)) = true := bne_iff_ne.mpr c3;have c3b2 : (l0.length == l1.length) = false := by first | simpa using c3 | (simp at c3 ⊢; omega)
 obtain rfl := Option.some.inj H;go_enter Try.func18, Try.ntmps18
 go_wp2
 repeat (go_quiet (fail); try go_wp2)
 go_ret
 exact ⟨by first | rfl | (simp; done) | (simp [*]; done), by repeat (first | exact Drawn0.refl _ | apply Drawn0.step)⟩
def r7Divides.f (a0_0 : Int) (a0_1 : Int) (l0_2 : List Int) (a1 : Int) : Option (Bool) := if a1 ≥ 1 then (if a1 ≤ a0_1 then (if a1 = 0 then (none) else (some ((Int.tmod a0_1 a1) == 0))) else (some false)) else (some false)
theorem r7Divides.calls (a0_0 : Int) (a0_1 : Int) (A0_2 : Option Addr) (c0_2 : Nat) (l0_2 : List Int) (a1 : Int) (r : Bool) (w : World) (hr0_2 : Kd.C (Kd.int .i64) w A0_2 l0_2.length l0_2) (hc0_2 : l0_2.length ≤ c0_2) (h : r7Divides.f a0_0 a0_1 l0_2 a1 = some r) :
  Calls Try.prog 13 #[.agg #[.int .i64 a0_0, .int .i64 a0_1, .slice A0_2 l0_2.length c0_2], .int .i64 a1] w fun e w' => e = .returned (.bool r) ∧ Below w.heap.size w w' := by
 have hu24 := Try.underlying24;have HR0_2 := Q9a.mk hr0_2;have HC0_2 := Q9a.mk hc0_2;clear hr0_2 hc0_2;have HB := Q9a.mk (Below.refl w.heap.size w);have H : (if a1 ≥ 1 then (if a1 ≤ a0_1 then (if a1 = 0 then (none) else (some ((Int.tmod a0_1 a1) == 0))) else (some false)) else (some false)) = some r := h;clear h;by_cases c3 : a1 ≥ 1
 ·rw [if_pos c3] at H;have c3b0 : decide (1 ≤ a1) = true := decide_eq_true c3;clear c3;by_cases c4 : a1 ≤ a0_1
  ·rw [if_pos c4] at H;have c4b0 : decide (a1 ≤ a0_1) = true := decide_eq_true c4;clear c4;by_cases c5 : a1 = 0
   ·rw [if_pos c5] at H;exact absurd H (by simp)
   rw [if_neg c5] at H;have c5b0 : (a1 == 0) = false := beq_eq_false_iff_ne.mpr c5;have c5b1 : (a1 != 0) = true := bne_iff_ne.mpr c5;obtain rfl := Option.some.inj H;go_enter Try.func13, Try.ntmps13
   go_wp2_with (first | ((with_reducible refine gD (N := 2) rfl ?_); refine bE ?hg (N := 2) ?hd (cs := #[.int .i64 a0_0, .int .i64 a0_1, .slice A0_2 l0_2.length c0_2]) (t := 24) ?hr ?_; (case hd => rfl); (case hg => rfl); (case hr => first | (go_simp; done) | (go_simp; rfl)); intro gb206 hg w6 hbox hb; have n0_ := Q9a.mk (bP (by repeat (first | (with_reducible first | exact HB.out | apply bA | apply bN | apply bD) | exact HB.out)) hb); have n1_ := Q9a.mk (hbox); have n2_ := Q9a.mk ((by rw [hg]; exact (bZ (by repeat (first | (with_reducible first | exact HB.out | apply bA | apply bN | apply bD) | exact HB.out))) : w.heap.size ≤ gb206)); have n3_ := n2_; clear HB; have HB := n0_; have BK206 := n1_; have GW206 := n2_; have GE206 := n3_; clear n0_ n1_ n2_ n3_; clear hb hbox hg; have hcz7_0 : w6.cell? ⟨gb206, 0, none⟩ = some (.int .i64 a0_0) := (kC BK206.out 0).trans rfl; have hcz7_1 : w6.cell? ⟨gb206, 1, none⟩ = some (.int .i64 a0_1) := (kC BK206.out 1).trans rfl; have hcz7_2 : w6.cell? ⟨gb206, 2, none⟩ = some (.slice A0_2 l0_2.length c0_2) := (kC BK206.out 2).trans rfl; have hfz7_0 := kF BK206.out 0; have hfz7_1 := kF BK206.out 1; have hfz7_2 := kF BK206.out 2))
   go_ret
   exact ⟨by first | rfl | (simp [*, eN, eS] <;> rfl), by repeat (first | (with_reducible first | exact HB.out | apply bA | apply bN | apply bD | refine bS ?_ GE206.out) | exact HB.out)⟩
  rw [if_neg c4] at H;have c4b0 : decide (a1 ≤ a0_1) = false := decide_eq_false c4;clear c4;obtain rfl := Option.some.inj H;go_enter Try.func13, Try.ntmps13
  go_wp2_with (first | ((with_reducible refine gD (N := 2) rfl ?_); refine bE ?hg (N := 2) ?hd (cs := #[.int .i64 a0_0, .int .i64 a0_1, .slice A0_2 l0_2.length c0_2]) (t := 24) ?hr ?_; (case hd => rfl); (case hg => rfl); (case hr => first | (go_simp; done) | (go_simp; rfl)); intro gb206 hg w8 hbox hb; have n0_ := Q9a.mk (bP (by repeat (first | (with_reducible first | exact HB.out | apply bA | apply bN | apply bD) | exact HB.out)) hb); have n1_ := Q9a.mk (hbox); have n2_ := Q9a.mk ((by rw [hg]; exact (bZ (by repeat (first | (with_reducible first | exact HB.out | apply bA | apply bN | apply bD) | exact HB.out))) : w.heap.size ≤ gb206)); have n3_ := n2_; clear HB; have HB := n0_; have BK206 := n1_; have GW206 := n2_; have GE206 := n3_; clear n0_ n1_ n2_ n3_; clear hb hbox hg; have hcz9_0 : w8.cell? ⟨gb206, 0, none⟩ = some (.int .i64 a0_0) := (kC BK206.out 0).trans rfl; have hcz9_1 : w8.cell? ⟨gb206, 1, none⟩ = some (.int .i64 a0_1) := (kC BK206.out 1).trans rfl; have hcz9_2 : w8.cell? ⟨gb206, 2, none⟩ = some (.slice A0_2 l0_2.length c0_2) := (kC BK206.out 2).trans rfl; have hfz9_0 := kF BK206.out 0; have hfz9_1 := kF BK206.out 1; have hfz9_2 := kF BK206.out 2))
  go_ret
  exact ⟨by first | rfl | (simp [*, eN, eS] <;> rfl), by repeat (first | (with_reducible first | exact HB.out | apply bA | apply bN | apply bD | refine bS ?_ GE206.out) | exact HB.out)⟩
 rw [if_neg c3] at H;have c3b0 : decide (1 ≤ a1) = false := decide_eq_false c3;clear c3;obtain rfl := Option.some.inj H;go_enter Try.func13, Try.ntmps13
 go_wp2_with (first | ((with_reducible refine gD (N := 2) rfl ?_); refine bE ?hg (N := 2) ?hd (cs := #[.int .i64 a0_0, .int .i64 a0_1, .slice A0_2 l0_2.length c0_2]) (t := 24) ?hr ?_; (case hd => rfl); (case hg => rfl); (case hr => first | (go_simp; done) | (go_simp; rfl)); intro gb206 hg w10 hbox hb; have n0_ := Q9a.mk (bP (by repeat (first | (with_reducible first | exact HB.out | apply bA | apply bN | apply bD) | exact HB.out)) hb); have n1_ := Q9a.mk (hbox); have n2_ := Q9a.mk ((by rw [hg]; exact (bZ (by repeat (first | (with_reducible first | exact HB.out | apply bA | apply bN | apply bD) | exact HB.out))) : w.heap.size ≤ gb206)); have n3_ := n2_; clear HB; have HB := n0_; have BK206 := n1_; have GW206 := n2_; have GE206 := n3_; clear n0_ n1_ n2_ n3_; clear hb hbox hg))
 go_ret
 exact ⟨by first | rfl | (simp [*, eN, eS] <;> rfl), by repeat (first | (with_reducible first | exact HB.out | apply bA | apply bN | apply bD | refine bS ?_ GE206.out) | exact HB.out)⟩
def r4Is.f (k : Nat) (a0_0 : Int) (a0_1 : Int) (l0_2 : List Int) (a1 : Int) : Option (Bool) := if a1 ≥ 0 then ((r4Order.f k a0_0 a0_1 l0_2).bind fun t208 => (some (decide (a1 < t208)))) else (some false)
theorem r4Is.calls (k : Nat) (a0_0 : Int) (a0_1 : Int) (A0_2 : Option Addr) (c0_2 : Nat) (l0_2 : List Int) (a1 : Int) (r : Bool) (w : World) (hr0_2 : Kd.C (Kd.int .i64) w A0_2 l0_2.length l0_2) (hc0_2 : l0_2.length ≤ c0_2) (h : r4Is.f k a0_0 a0_1 l0_2 a1 = some r) :
  Calls Try.prog 17 #[.agg #[.int .i64 a0_0, .int .i64 a0_1, .slice A0_2 l0_2.length c0_2], .int .i64 a1] w fun e w' => e = .returned (.bool r) ∧ Below w.heap.size w w' := by
 have hu24 := Try.underlying24;have HR0_2 := Q9a.mk hr0_2;have HC0_2 := Q9a.mk hc0_2;clear hr0_2 hc0_2;have HB := Q9a.mk (Below.refl w.heap.size w);have H : (if a1 ≥ 0 then ((r4Order.f k a0_0 a0_1 l0_2).bind fun t208 => (some (decide (a1 < t208)))) else (some false)) = some r := h;clear h;by_cases c3 : a1 ≥ 0
 ·rw [if_pos c3] at H;have c3b0 : decide (0 ≤ a1) = true := decide_eq_true c3;clear c3;replace H := Option.bind_eq_some_iff.mp H;obtain ⟨t208, A40, H⟩ := H;replace H : (some (decide (a1 < t208))) = some r := H;have A4 := Q9a.mk A40;clear A40;obtain rfl := Option.some.inj H;go_enter Try.func17, Try.ntmps17
  go_wp2_with (first | ((with_reducible refine gD (N := 2) rfl ?_); refine bE ?hg (N := 2) ?hd (cs := #[.int .i64 a0_0, .int .i64 a0_1, .slice A0_2 l0_2.length c0_2]) (t := 24) ?hr ?_; (case hd => rfl); (case hg => rfl); (case hr => first | (go_simp; done) | (go_simp; rfl)); intro gb207 hg w5 hbox hb; have n0_ := Q9a.mk (bP (by repeat (first | (with_reducible first | exact HB.out | apply bA | apply bN | apply bD) | exact HB.out)) hb); have n1_ := Q9a.mk (hbox); have n2_ := Q9a.mk ((by rw [hg]; exact (bZ (by repeat (first | (with_reducible first | exact HB.out | apply bA | apply bN | apply bD) | exact HB.out))) : w.heap.size ≤ gb207)); have n3_ := n2_; clear HB; have HB := n0_; have BK207 := n1_; have GW207 := n2_; have GE207 := n3_; clear n0_ n1_ n2_ n3_; clear hb hbox hg; have hcz6_0 : w5.cell? ⟨gb207, 0, none⟩ = some (.int .i64 a0_0) := (kC BK207.out 0).trans rfl; have hcz6_1 : w5.cell? ⟨gb207, 1, none⟩ = some (.int .i64 a0_1) := (kC BK207.out 1).trans rfl; have hcz6_2 : w5.cell? ⟨gb207, 2, none⟩ = some (.slice A0_2 l0_2.length c0_2) := (kC BK207.out 2).trans rfl; have hfz6_0 := kF BK207.out 0; have hfz6_1 := kF BK207.out 1; have hfz6_2 := kF BK207.out 2) | (go_at_call 29; (with_reducible refine (r4Order.calls k a0_0 a0_1 _ _ l0_2 t208 _ ?side1 ?side2 A4.out).mono ?_); (case side1 => repeat (first | exact (Kd.cB HR0_2.out HB.out) | with_reducible first | refine Kd.cA ?_ _ | refine Kd.cN ?_ _ | refine Kd.cD ?_)); (case side2 => exact HC0_2.out); rintro e w7 ⟨rfl, hb⟩; have n0_ := Q9a.mk (kB (g := gb207) (o := .cells #[.int .i64 a0_0, .int .i64 a0_1, .slice A0_2 l0_2.length c0_2] 24 (0, 0)) (by (with_reducible repeat (first | refine kN ?_ _ | refine kD ?_ | refine kA ?_ _)); exact BK207.out) hb); have n1_ := Q9a.mk (bP (by repeat (first | (with_reducible first | exact HB.out | apply bA | apply bN | apply bD | refine bS ?_ GE207.out) | exact HB.out)) hb); clear BK207; clear HB; have BK207 := n0_; have HB := n1_; clear n0_ n1_; (try clear hb); (try clear hb2); (try clear hk); (try clear hi)))
  go_ret
  exact ⟨by first | rfl | (simp [*, eN, eS] <;> rfl), by repeat (first | (with_reducible first | exact HB.out | apply bA | apply bN | apply bD | refine bS ?_ GE207.out) | exact HB.out)⟩
 rw [if_neg c3] at H;have c3b0 : decide (0 ≤ a1) = false := decide_eq_false c3;clear c3;obtain rfl := Option.some.inj H;go_enter Try.func17, Try.ntmps17
 go_wp2_with (first | ((with_reducible refine gD (N := 2) rfl ?_); refine bE ?hg (N := 2) ?hd (cs := #[.int .i64 a0_0, .int .i64 a0_1, .slice A0_2 l0_2.length c0_2]) (t := 24) ?hr ?_; (case hd => rfl); (case hg => rfl); (case hr => first | (go_simp; done) | (go_simp; rfl)); intro gb207 hg w8 hbox hb; have n0_ := Q9a.mk (bP (by repeat (first | (with_reducible first | exact HB.out | apply bA | apply bN | apply bD) | exact HB.out)) hb); have n1_ := Q9a.mk (hbox); have n2_ := Q9a.mk ((by rw [hg]; exact (bZ (by repeat (first | (with_reducible first | exact HB.out | apply bA | apply bN | apply bD) | exact HB.out))) : w.heap.size ≤ gb207)); have n3_ := n2_; clear HB; have HB := n0_; have BK207 := n1_; have GW207 := n2_; have GE207 := n3_; clear n0_ n1_ n2_ n3_; clear hb hbox hg))
 go_ret
 exact ⟨by first | rfl | (simp [*, eN, eS] <;> rfl), by repeat (first | (with_reducible first | exact HB.out | apply bA | apply bN | apply bD | refine bS ?_ GE207.out) | exact HB.out)⟩
def r4In.f (k : Nat) (a0_0 : Int) (a0_1 : Int) (l0_2 : List Int) (a1 : Int) : Option (Int) := (r4Is.f k a0_0 a0_1 l0_2 a1).bind fun t210 => (if t210 = true then (some a1) else (some 0))
theorem r4In.calls (k : Nat) (a0_0 : Int) (a0_1 : Int) (A0_2 : Option Addr) (c0_2 : Nat) (l0_2 : List Int) (a1 : Int) (r : Int) (w : World) (hr0_2 : Kd.C (Kd.int .i64) w A0_2 l0_2.length l0_2) (hc0_2 : l0_2.length ≤ c0_2) (h : r4In.f k a0_0 a0_1 l0_2 a1 = some r) :
  Calls Try.prog 30 #[.agg #[.int .i64 a0_0, .int .i64 a0_1, .slice A0_2 l0_2.length c0_2], .int .i64 a1] w fun e w' => e = .returned (.int .i64 r) ∧ Below w.heap.size w w' := by
 have hu24 := Try.underlying24;have HR0_2 := Q9a.mk hr0_2;have HC0_2 := Q9a.mk hc0_2;clear hr0_2 hc0_2;have HB := Q9a.mk (Below.refl w.heap.size w);have H : ((r4Is.f k a0_0 a0_1 l0_2 a1).bind fun t210 => (if t210 = true then (some a1) else (some 0))) = some r := h;clear h;replace H := Option.bind_eq_some_iff.mp H;obtain ⟨t210, A30, H⟩ := H;replace H : (if t210 = true then (some a1) else (some 0)) = some r := H;have A3 := Q9a.mk A30;clear A30;by_cases c4 : t210 = true
 ·subst c4;have H1 : (some a1) = some r := by rw [if_pos rfl] at H; exact H
  clear H;have H := H1;clear H1;obtain rfl := Option.some.inj H;go_enter Try.func30, Try.ntmps30
  go_wp2_with (first | ((with_reducible refine gD (N := 2) rfl ?_); refine bE ?hg (N := 2) ?hd (cs := #[.int .i64 a0_0, .int .i64 a0_1, .slice A0_2 l0_2.length c0_2]) (t := 24) ?hr ?_; (case hd => rfl); (case hg => rfl); (case hr => first | (go_simp; done) | (go_simp; rfl)); intro gb209 hg w5 hbox hb; have n0_ := Q9a.mk (bP (by repeat (first | (with_reducible first | exact HB.out | apply bA | apply bN | apply bD) | exact HB.out)) hb); have n1_ := Q9a.mk (hbox); have n2_ := Q9a.mk ((by rw [hg]; exact (bZ (by repeat (first | (with_reducible first | exact HB.out | apply bA | apply bN | apply bD) | exact HB.out))) : w.heap.size ≤ gb209)); have n3_ := n2_; clear HB; have HB := n0_; have BK209 := n1_; have GW209 := n2_; have GE209 := n3_; clear n0_ n1_ n2_ n3_; clear hb hbox hg; have hcz6_0 : w5.cell? ⟨gb209, 0, none⟩ = some (.int .i64 a0_0) := (kC BK209.out 0).trans rfl; have hcz6_1 : w5.cell? ⟨gb209, 1, none⟩ = some (.int .i64 a0_1) := (kC BK209.out 1).trans rfl; have hcz6_2 : w5.cell? ⟨gb209, 2, none⟩ = some (.slice A0_2 l0_2.length c0_2) := (kC BK209.out 2).trans rfl; have hfz6_0 := kF BK209.out 0; have hfz6_1 := kF BK209.out 1; have hfz6_2 := kF BK209.out 2) | ((with_reducible refine gC (f := 17) rfl ?_); refine gL (some 7) rfl rfl Try.func17 (by kernel_rfl) rfl #[.agg #[.int .i64 a0_0, .int .i64 a0_1, .slice A0_2 l0_2.length c0_2], .int .i64 a1] rfl (by (try simp only [sm1, sm2, sm3]); first | done | rfl | (simp only [sm4, sm5]; rfl)) ?_; (with_reducible refine (r4Is.calls k a0_0 a0_1 _ _ l0_2 a1 true _ ?side1 ?side2 A3.out).mono ?_); (case side1 => repeat (first | exact (Kd.cB HR0_2.out HB.out) | with_reducible first | refine Kd.cA ?_ _ | refine Kd.cN ?_ _ | refine Kd.cD ?_)); (case side2 => exact HC0_2.out); rintro e w7 ⟨rfl, hb⟩; refine ⟨_, rfl, ?_⟩; have n0_ := Q9a.mk (kB (g := gb209) (o := .cells #[.int .i64 a0_0, .int .i64 a0_1, .slice A0_2 l0_2.length c0_2] 24 (0, 0)) (by (with_reducible repeat (first | refine kN ?_ _ | refine kD ?_ | refine kA ?_ _)); exact BK209.out) hb); have n1_ := Q9a.mk (bP (by repeat (first | (with_reducible first | exact HB.out | apply bA | apply bN | apply bD | refine bS ?_ GE209.out) | exact HB.out)) hb); clear BK209; clear HB; have BK209 := n0_; have HB := n1_; clear n0_ n1_; (try clear hb); (try clear hb2); (try clear hk); (try clear hi)))
  go_ret
  exact ⟨by first | rfl | (simp [*, eN, eS] <;> rfl), by repeat (first | (with_reducible first | exact HB.out | apply bA | apply bN | apply bD | refine bS ?_ GE209.out) | exact HB.out)⟩
 replace c4 := Bool.eq_false_iff.mpr c4;subst c4;have H1 : (some 0) = some r := by rw [if_neg (show ¬ (false = true) by decide)] at H; exact H
 clear H;have H := H1;clear H1;obtain rfl := Option.some.inj H;go_enter Try.func30, Try.ntmps30
 go_wp2_with (first | ((with_reducible refine gD (N := 2) rfl ?_); refine bE ?hg (N := 2) ?hd (cs := #[.int .i64 a0_0, .int .i64 a0_1, .slice A0_2 l0_2.length c0_2]) (t := 24) ?hr ?_; (case hd => rfl); (case hg => rfl); (case hr => first | (go_simp; done) | (go_simp; rfl)); intro gb209 hg w8 hbox hb; have n0_ := Q9a.mk (bP (by repeat (first | (with_reducible first | exact HB.out | apply bA | apply bN | apply bD) | exact HB.out)) hb); have n1_ := Q9a.mk (hbox); have n2_ := Q9a.mk ((by rw [hg]; exact (bZ (by repeat (first | (with_reducible first | exact HB.out | apply bA | apply bN | apply bD) | exact HB.out))) : w.heap.size ≤ gb209)); have n3_ := n2_; clear HB; have HB := n0_; have BK209 := n1_; have GW209 := n2_; have GE209 := n3_; clear n0_ n1_ n2_ n3_; clear hb hbox hg; have hcz9_0 : w8.cell? ⟨gb209, 0, none⟩ = some (.int .i64 a0_0) := (kC BK209.out 0).trans rfl; have hcz9_1 : w8.cell? ⟨gb209, 1, none⟩ = some (.int .i64 a0_1) := (kC BK209.out 1).trans rfl; have hcz9_2 : w8.cell? ⟨gb209, 2, none⟩ = some (.slice A0_2 l0_2.length c0_2) := (kC BK209.out 2).trans rfl; have hfz9_0 := kF BK209.out 0; have hfz9_1 := kF BK209.out 1; have hfz9_2 := kF BK209.out 2) | ((with_reducible refine gC (f := 17) rfl ?_); refine gL (some 7) rfl rfl Try.func17 (by kernel_rfl) rfl #[.agg #[.int .i64 a0_0, .int .i64 a0_1, .slice A0_2 l0_2.length c0_2], .int .i64 a1] rfl (by (try simp only [sm1, sm2, sm3]); first | done | rfl | (simp only [sm4, sm5]; rfl)) ?_; (with_reducible refine (r4Is.calls k a0_0 a0_1 _ _ l0_2 a1 false _ ?side1 ?side2 A3.out).mono ?_); (case side1 => repeat (first | exact (Kd.cB HR0_2.out HB.out) | with_reducible first | refine Kd.cA ?_ _ | refine Kd.cN ?_ _ | refine Kd.cD ?_)); (case side2 => exact HC0_2.out); rintro e w10 ⟨rfl, hb⟩; refine ⟨_, rfl, ?_⟩; have n0_ := Q9a.mk (kB (g := gb209) (o := .cells #[.int .i64 a0_0, .int .i64 a0_1, .slice A0_2 l0_2.length c0_2] 24 (0, 0)) (by (with_reducible repeat (first | refine kN ?_ _ | refine kD ?_ | refine kA ?_ _)); exact BK209.out) hb); have n1_ := Q9a.mk (bP (by repeat (first | (with_reducible first | exact HB.out | apply bA | apply bN | apply bD | refine bS ?_ GE209.out) | exact HB.out)) hb); clear BK209; clear HB; have BK209 := n0_; have HB := n1_; clear n0_ n1_; (try clear hb); (try clear hb2); (try clear hk); (try clear hi)))
 go_ret
 exact ⟨by first | rfl | (simp [*, eN, eS] <;> rfl), by repeat (first | (with_reducible first | exact HB.out | apply bA | apply bN | apply bD | refine bS ?_ GE209.out) | exact HB.out)⟩
def r4Digits.f (k : Nat) (a0_0 : Int) (a0_1 : Int) (l0_2 : List Int) (a1 : Int) : Option (List Int) := (r4In.f k a0_0 a0_1 l0_2 a1).bind fun t212 => ((r4digits.f k t212 a0_0 a0_1).bind fun t213 => (some t213))
def r4Digits.T1 : Bool × List (List Nat × List Nat) := (true, [([], []), ([], []), ([0, 1], [0, 1]), ([], []), ([3], [3]), ([], []), ([5], [5]), ([2, 4, 6, 2], [2, 4, 6]), ([7, 7, 0, 1, 2, 3, 4, 5, 6, 7], [7])])
def r4Digits.B1 : List Nat := [0, 0, 3, 0, 8, 0, 32, 127, 255]
theorem r4Digits.tab1 : rtab .any (opsOf Try.f44 1) = r4Digits.T1 := by kernel_rfl
theorem r4Digits.bits1 : waitsOk r4Digits.T1.2 r4Digits.B1 = true := by kernel_rfl
theorem r4Digits.calls (k : Nat) (a0_0 : Int) (a0_1 : Int) (A0_2 : Option Addr) (c0_2 : Nat) (l0_2 : List Int) (a1 : Int) (r : List Int) (w : World) (hr0_2 : Kd.C (Kd.int .i64) w A0_2 l0_2.length l0_2) (hc0_2 : l0_2.length ≤ c0_2) (h : r4Digits.f k a0_0 a0_1 l0_2 a1 = some r) :
  Calls Try.prog 44 #[.agg #[.int .i64 a0_0, .int .i64 a0_1, .slice A0_2 l0_2.length c0_2], .int .i64 a1] w fun e w' => ∃ v0_ : Value, e = .returned (v0_) ∧ Kd.R (Kd.int .i64) 3 w' w.heap.size (fun _ => True) v0_ r ∧ Below w.heap.size w w' := by
 have hu24 := Try.underlying24;have HR0_2 := Q9a.mk hr0_2;have HC0_2 := Q9a.mk hc0_2;clear hr0_2 hc0_2;have HB := Q9a.mk (Below.refl w.heap.size w);have H : ((r4In.f k a0_0 a0_1 l0_2 a1).bind fun t212 => ((r4digits.f k t212 a0_0 a0_1).bind fun t213 => (some t213))) = some r := h;clear h;replace H := Option.bind_eq_some_iff.mp H;obtain ⟨t212, A30, H⟩ := H;replace H : ((r4digits.f k t212 a0_0 a0_1).bind fun t213 => (some t213)) = some r := H;have A3 := Q9a.mk A30;clear A30;replace H := Option.bind_eq_some_iff.mp H;obtain ⟨t213, A40, H⟩ := H;replace H : (some t213) = some r := H;have A4 := Q9a.mk A40;clear A40;obtain rfl := Option.some.inj H;go_enter Try.func44, Try.ntmps44
 try go_wp2_with (first | ((with_reducible refine gD (N := 2) rfl ?_); refine bE ?hg (N := 2) ?hd (cs := #[.int .i64 a0_0, .int .i64 a0_1, .slice A0_2 l0_2.length c0_2]) (t := 24) ?hr ?_; (case hd => rfl); (case hg => rfl); (case hr => first | (go_simp; done) | (go_simp; rfl)); intro gb211 hg w5 hbox hb; have n0_ := Q9a.mk (bP (by repeat (first | (with_reducible first | exact HB.out | apply bA | apply bN | apply bD) | exact HB.out)) hb); have n1_ := Q9a.mk (hbox); have n2_ := Q9a.mk ((by rw [hg]; exact (bZ (by repeat (first | (with_reducible first | exact HB.out | apply bA | apply bN | apply bD) | exact HB.out))) : w.heap.size ≤ gb211)); have n3_ := n2_; clear HB; have HB := n0_; have BK211 := n1_; have GW211 := n2_; have GE211 := n3_; clear n0_ n1_ n2_ n3_; clear hb hbox hg))
 have n0_ := Q9a.mk (kD BK211.out);have n1_ := Q9a.mk (bD HB.out);clear BK211;clear HB;have BK211 := n0_;have HB := n1_;clear n0_ n1_;refine start_ (n := 9) (S := fun w' => w'.cell? ⟨gb211, 0, none⟩ = some (.int .i64 a0_0) ∧ w'.cell? ⟨gb211, 1, none⟩ = some (.int .i64 a0_1) ∧ w'.cell? ⟨gb211, 2, none⟩ = some (.slice A0_2 l0_2.length c0_2)) (ds := []) #[fB,fB,fB,fB,fB,fB,fB,fB,fB] (by kernel_rfl) rfl rfl ⟨(kC BK211.out 0).trans rfl, (kC BK211.out 1).trans rfl, (kC BK211.out 2).trans rfl⟩ (fun hHeld => ?_); refine with_tabW r4Digits.tab1 r4Digits.bits1 (fun HT_ HW_ => ?_);generalize w5.drew = w6 at BK211 HB hHeld ⊢;refine pQ 1 6 rfl (any_of HT_.out (by kernel_rfl)) ?_;refine pQ 3 8 rfl (any_of HT_.out (by kernel_rfl)) ?_;refine pQ 5 10 rfl (any_of HT_.out (by kernel_rfl)) ?_;refine take_ (i := 0) (N := some 5) (v := ?_) (a' := ?_) #[tB,tB,fB,tB,fB,tB,fB,fB,fB] rfl rfl (take_ofW HT_.out HW_.out (by kernel_rfl)) (fun _ _ _ h => h) (Or.inl ⟨by rfl, ?_⟩) hHeld ?_ ?_;rotate_left
 ·rintro w' ⟨s0, s1, s2⟩;go_simp;with_reducible rfl
 rotate_left
 ·simp only [Act.put, sz1, sz2, sz3, i64_w, i32_w];rfl
 refine take_ (i := 4) (N := some 9) (v := ?_) (a' := ?_) #[tB,tB,fB,tB,tB,tB,fB,fB,fB] rfl rfl (take_ofW HT_.out HW_.out (by kernel_rfl)) (fun _ _ _ h => h) (Or.inl ⟨by rfl, ?_⟩) hHeld ?_ ?_;rotate_left
 ·rintro w' ⟨s0, s1, s2⟩;go_simp;with_reducible rfl
 rotate_left
 ·simp only [Act.put, sz1, sz2, sz3, i64_w, i32_w];rfl
 refine take_ (i := 6) (N := some 11) (v := ?_) (a' := ?_) #[tB,tB,fB,tB,tB,tB,tB,fB,fB] rfl rfl (take_ofW HT_.out HW_.out (by kernel_rfl)) (fun _ _ _ h => h) (Or.inl ⟨by rfl, ?_⟩) hHeld ?_ ?_;rotate_left
 ·rintro w' ⟨s0, s1, s2⟩;go_simp;with_reducible rfl
 rotate_left
 ·simp only [Act.put, sz1, sz2, sz3, i64_w, i32_w];rfl
 refine one_ (i := 2) (N := some 7) #[tB,tB,tB,tB,tB,tB,tB,fB,fB] rfl rfl (one_of HT_.out (by kernel_rfl)) (by decide) (fun K hK => ?_);refine goes_ Try.func30 (by kernel_rfl) rfl #[.agg #[.int .i64 a0_0, .int .i64 a0_1, .slice A0_2 l0_2.length c0_2], .int .i64 a1] (by rfl) rfl rfl (by (try simp only [sm1, sm2, sm3]); first | done | rfl | (simp only [sm4, sm5]; rfl)) ?_;with_reducible refine (r4In.calls k a0_0 a0_1 _ _ l0_2 a1 t212 _ ?side1 ?side2 A3.out).mono ?_
 (case side1 => repeat (first | exact (Kd.cB HR0_2.out HB.out) | with_reducible first | refine Kd.cA ?_ _ | refine Kd.cN ?_ _ | refine Kd.cD ?_))
 (case side2 => exact HC0_2.out)
 rintro e w7 ⟨rfl, hb⟩;refine ⟨_, rfl, ?_⟩;have n0_ := Q9a.mk (kB (g := gb211) (o := .cells #[.int .i64 a0_0, .int .i64 a0_1, .slice A0_2 l0_2.length c0_2] 24 (0, 0)) (by (with_reducible repeat (first | refine kN ?_ _ | refine kD ?_ | refine kA ?_ _)); exact BK211.out) hb);have n1_ := Q9a.mk (bP (by repeat (first | (with_reducible first | exact HB.out | apply bA | apply bN | apply bD | refine bS ?_ GE211.out) | exact HB.out)) hb);clear BK211;clear HB;have BK211 := n0_;have HB := n1_;clear n0_ n1_;(try clear hb)
 (try clear hb2)
 (try clear hk)
 (try clear hi)
 refine hK.out _ _ ⟨(kC BK211.out 0).trans rfl, (kC BK211.out 1).trans rfl, (kC BK211.out 2).trans rfl⟩ (fun hHeld => ?_);clear hK K;refine norm_ (a' := ?_) ?_ ?_;rotate_left
 ·show Act.put _ (some 7) _ = _
  simp only [Act.put, sz1, sz2, sz3, i64_w, i32_w];rfl
 refine one_ (i := 7) (N := some 12) #[tB,tB,tB,tB,tB,tB,tB,tB,fB] rfl rfl (one_of HT_.out (by kernel_rfl)) (by decide) (fun K hK => ?_);refine goes_ Try.func72 (by kernel_rfl) rfl #[.int .i64 t212, .int .i64 a0_0, .int .i64 a0_1] (by rfl) rfl rfl (by (try simp only [sm1, sm2, sm3]); first | done | rfl | (simp only [sm4, sm5]; rfl)) ?_;with_reducible refine (r4digits.calls k t212 a0_0 a0_1 t213 _ A4.out).mono ?_
 rintro e w8 ⟨v214, rfl, ho0, hb⟩;refine ⟨_, rfl, ?_⟩;have n0_ := Q9a.mk (Kd.rL ho0 (bZ (by repeat (first | (with_reducible first | exact HB.out | apply bA | apply bN | apply bD | refine bS ?_ GE211.out) | exact HB.out))));have n1_ := Q9a.mk (kB (g := gb211) (o := .cells #[.int .i64 a0_0, .int .i64 a0_1, .slice A0_2 l0_2.length c0_2] 24 (0, 0)) (by (with_reducible repeat (first | refine kN ?_ _ | refine kD ?_ | refine kA ?_ _)); exact BK211.out) hb);have n2_ := Q9a.mk (bP (by repeat (first | (with_reducible first | exact HB.out | apply bA | apply bN | apply bD | refine bS ?_ GE211.out) | exact HB.out)) hb);clear BK211;clear HB;have HO215 := n0_;have BK211 := n1_;have HB := n2_;clear n0_ n1_ n2_;(try clear hb)
 (try clear hb2)
 (try clear hk)
 (try clear hi)
 (try clear ho0)
 refine hK.out _ _ ⟨(kC BK211.out 0).trans rfl, (kC BK211.out 1).trans rfl, (kC BK211.out 2).trans rfl⟩ (fun hHeld => ?_);clear hK K;refine norm_ (a' := ?_) ?_ ?_;rotate_left
 ·show Act.put _ (some 12) _ = _
  simp only [Act.put, sz1, sz2, sz3, i64_w, i32_w];rfl
 refine pQ 8 4 rfl (any_of HT_.out (by kernel_rfl)) ?_;refine done_ (done_of HT_.out (by kernel_rfl)) ?_;try go_wp2
 go_ret
 exact ⟨_, by first | rfl | (simp [*, eN, eS] <;> rfl), by (with_reducible repeat (first | apply Kd.rA | apply Kd.rN | apply Kd.rD)); exact HO215.out, by repeat (first | (with_reducible first | exact HB.out | apply bA | apply bN | apply bD | refine bS ?_ GE211.out) | exact HB.out)⟩
end
end Go.Proofs.Ytlbddjojhcgpiaa.P
end
-- D1
section
namespace Go.Proofs.Ytlbddjojhcgpiaa.Pl
open Go.RowKit Go.Proofs.Ytlbddjojhcgpiaa.P Go.Proofs.YtlbddjojhcgpiaaW.PrintWords
theorem w64 {n : Int} (h0 : -9223372036854775808 ≤ n) (h1 : n < 9223372036854775808) : wrap64 n = n := by
 unfold wrap64; omega
theorem w64n (n : Nat) (h : n < 9223372036854775808) : wrap64 (n : Int) = n := w64 (by omega) (by omega)
def ordV (P M : Int) : Int := if 2 ≤ P ∧ 1 ≤ M ∧ M ≤ 8 ∧ P.toNat ^ M.toNat ≤ 256 then ((P.toNat ^ M.toNat : Nat) : Int) else 0
theorem pow_le_of {p i m : Nat} (hp : 2 ≤ p) (h : i ≤ m) : p ^ i ≤ p ^ m := Nat.pow_le_pow_right (by omega) h
theorem order_loop (p m : Nat) (hp : 2 ≤ p) (hp2 : p ≤ 256) (hm : m ≤ 8) : ∀ d i, i + d = m → p ^ i ≤ 256 → Ev (fun k => field_order.l0 k (p : Int) ((p ^ i : Nat) : Int) (m : Int) (i : Int)) (if p ^ m ≤ 256 then ((p ^ m : Nat) : Int) else 0) := by
 intro d;induction d with
 | zero =>
  intro i hi hle;obtain rfl : i = m := by omega
  rw [if_pos hle];refine Ev.step (f := fun _ => some _) (fun k => ?_) (Ev.now _);simp only [field_order.l0];rw [if_neg (by omega)]
 | succ d ih =>
  intro i hi hle;have hb : p ^ i * p ≤ 256 * 256 := Nat.mul_le_mul hle hp2
  have hw : wrap64 (((p ^ i : Nat) : Int) * (p : Int)) = ((p ^ (i + 1) : Nat) : Int) := by
   rw [← Int.natCast_mul, ← Nat.pow_succ];exact w64n _ (by rw [Nat.pow_succ]; omega)
  have hw2 : wrap64 ((i : Int) + 1) = ((i + 1 : Nat) : Int) := by rw [w64 (by omega) (by omega)]; rfl
  by_cases hc : p ^ (i + 1) ≤ 256
  ·refine Ev.step (fun k => ?_) (ih (i + 1) (by omega) hc);simp only [field_order.l0];rw [if_pos (by omega), hw, hw2, if_neg (by omega)]
  have hmm : ¬ p ^ m ≤ 256 := fun h => hc (Nat.le_trans (pow_le_of hp (by omega)) h)
  rw [if_neg hmm];refine Ev.step (f := fun _ => some _) (fun k => ?_) (Ev.now _);simp only [field_order.l0];rw [if_pos (by omega), hw, if_pos (by omega)]
theorem order_ev (P M : Int) : Ev (fun k => field_order.f k P M) (ordV P M) := by
 have zero : ordV P M = 0 → Ev (fun k => field_order.j0 k P M true) (ordV P M) := by
  intro h;rw [h];refine Ev.step (f := fun _ => some _) (fun k => ?_) (Ev.now _);simp only [field_order.j0];rfl
 by_cases h1 : P < 2
 ·refine Ev.congr (fun k => ?_) (zero (by unfold ordV; rw [if_neg (by omega)]));unfold field_order.f
  rw [if_pos h1]
 by_cases h2 : P > 256
 ·refine Ev.congr (fun k => ?_) (zero ?_)
  ·unfold field_order.f
   rw [if_neg h1, if_pos h2]
  unfold ordV
  rw [if_neg];rintro ⟨a, b, c, d⟩;have := pow_le_of (p := P.toNat) (i := 1) (m := M.toNat) (by omega) (by omega);rw [Nat.pow_one] at this;omega
 by_cases h3 : M < 1
 ·refine Ev.congr (fun k => ?_) (zero (by unfold ordV; rw [if_neg (by omega)]));unfold field_order.f
  rw [if_neg h1, if_neg h2, if_pos h3]
 by_cases h4 : M > 8
 ·refine Ev.congr (fun k => ?_) (zero (by unfold ordV; rw [if_neg (by omega)]));unfold field_order.f
  rw [if_neg h1, if_neg h2, if_neg h3, decide_eq_true h4]
 obtain ⟨p, rfl⟩ := Int.eq_ofNat_of_zero_le (show 0 ≤ P by omega);obtain ⟨m, rfl⟩ := Int.eq_ofNat_of_zero_le (show 0 ≤ M by omega);have hl := order_loop p m (by omega) (by omega) (by omega) m 0 (by omega) (by simp)
 have e : (if p ^ m ≤ 256 then ((p ^ m : Nat) : Int) else 0) = ordV p m := by
  unfold ordV
  simp only [Int.toNat_natCast];by_cases hc : p ^ m ≤ 256
  ·rw [if_pos hc, if_pos ⟨by omega, by omega, by omega, hc⟩]
  rw [if_neg hc, if_neg (fun h => hc h.2.2.2)]
 rw [e] at hl;refine Ev.congr (f := fun k => field_order.j0 k (p : Int) (m : Int) false) (fun k => ?_) ?_
 ·unfold field_order.f
  rw [if_neg h1, if_neg h2, if_neg h3, decide_eq_false h4]
 refine Ev.step (fun k => ?_) hl;simp only [field_order.j0];rw [if_neg (by simp)];rfl
theorem order04_loop (p m : Nat) (hp : 2 ≤ p) (hm : m ≤ 8) (l : List Int) (hpw : (p : Int) < 9223372036854775808) : ∀ d i, i + d = m → p ^ i ≤ 256 → Ev (fun k => r4Order.l0 k ((p ^ i : Nat) : Int) (i : Int) (p : Int) (m : Int) l) (if p ^ m ≤ 256 then ((p ^ m : Nat) : Int) else 0) := by
 intro d;induction d with
 | zero =>
  intro i hi hle;obtain rfl : i = m := by omega
  rw [if_pos hle];refine Ev.step (f := fun _ => some _) (fun k => ?_) (Ev.now _);simp only [r4Order.l0];rw [if_neg (by omega)]
 | succ d ih =>
  intro i hi hle
  have hd : wrap64 (Int.tdiv 256 (p : Int)) = ((256 / p : Nat) : Int) := by
   rw [show (256 : Int) = ((256 : Nat) : Int) from rfl, Cw.tdiv_nat];exact w64n _ (by have := Nat.div_le_self 256 p; omega)
  have hw2 : wrap64 ((i : Int) + 1) = ((i + 1 : Nat) : Int) := by rw [w64 (by omega) (by omega)]; rfl
  have hiff : p ^ (i + 1) ≤ 256 ↔ p ^ i ≤ 256 / p := by
   rw [Nat.le_div_iff_mul_le (by omega), Nat.pow_succ]
  by_cases hc : p ^ (i + 1) ≤ 256
  ·have hw : wrap64 (((p ^ i : Nat) : Int) * (p : Int)) = ((p ^ (i + 1) : Nat) : Int) := by
    rw [← Int.natCast_mul, ← Nat.pow_succ];exact w64n _ (Nat.lt_of_le_of_lt hc (by omega))
   refine Ev.step (fun k => ?_) (ih (i + 1) (by omega) hc);have := hiff.1 hc;simp only [r4Order.l0];rw [if_pos (by omega), if_neg (by omega), hd, if_neg (by omega), hw, hw2]
  have hmm : ¬ p ^ m ≤ 256 := fun h => hc (Nat.le_trans (pow_le_of hp (by omega)) h)
  have : ¬ p ^ i ≤ 256 / p := fun h => hc (hiff.2 h)
  rw [if_neg hmm];refine Ev.step (f := fun _ => some _) (fun k => ?_) (Ev.now _);simp only [r4Order.l0];rw [if_pos (by omega), if_neg (by omega), hd, if_pos (by omega)]
theorem order04_ev (P M : Int) (l : List Int) (hP : P < 9223372036854775808) : Ev (fun k => r4Order.f k P M l) (ordV P M) := by
 have zero : ordV P M = 0 → Ev (fun k => r4Order.j0 k true P M l) (ordV P M) := by
  intro h;rw [h];refine Ev.step (f := fun _ => some _) (fun k => ?_) (Ev.now _);simp only [r4Order.j0];rfl
 by_cases h1 : P < 2
 ·refine Ev.congr (fun k => ?_) (zero (by unfold ordV; rw [if_neg (by omega)]));unfold r4Order.f
  rw [if_pos h1]
 by_cases h3 : M < 1
 ·refine Ev.congr (fun k => ?_) (zero (by unfold ordV; rw [if_neg (by omega)]));unfold r4Order.f
  rw [if_neg h1, if_pos h3]
 by_cases h4 : M > 8
 ·refine Ev.congr (fun k => ?_) (zero (by unfold ordV; rw [if_neg (by omega)]));unfold r4Order.f
  rw [if_neg h1, if_neg h3, decide_eq_true h4]
 obtain ⟨p, rfl⟩ := Int.eq_ofNat_of_zero_le (show 0 ≤ P by omega);obtain ⟨m, rfl⟩ := Int.eq_ofNat_of_zero_le (show 0 ≤ M by omega);have hl := order04_loop p m (by omega) (by omega) l hP m 0 (by omega) (by simp)
 have e : (if p ^ m ≤ 256 then ((p ^ m : Nat) : Int) else 0) = ordV p m := by
  unfold ordV
  simp only [Int.toNat_natCast];by_cases hc : p ^ m ≤ 256
  ·rw [if_pos hc, if_pos ⟨by omega, by omega, by omega, hc⟩]
  rw [if_neg hc, if_neg (fun h => hc h.2.2.2)]
 rw [e] at hl;refine Ev.congr (f := fun k => r4Order.j0 k false (p : Int) (m : Int) l) (fun k => ?_) ?_
 ·unfold r4Order.f
  rw [if_neg h1, if_neg h3, decide_eq_false h4]
 refine Ev.step (fun k => ?_) hl;simp only [r4Order.j0];rw [if_neg (by simp)];rfl
theorem ordV_pos {P M : Int} (h : ordV P M ≠ 0) : ∃ p m : Nat, P = p ∧ M = m ∧ 2 ≤ p ∧ p ≤ 256 ∧ 1 ≤ m ∧ m ≤ 8 ∧ p ^ m ≤ 256 ∧ ordV P M = ((p ^ m : Nat) : Int) := by
 unfold ordV at h ⊢
 by_cases hc : 2 ≤ P ∧ 1 ≤ M ∧ M ≤ 8 ∧ P.toNat ^ M.toNat ≤ 256
 ·rw [if_pos hc];have := pow_le_of (p := P.toNat) (i := 1) (m := M.toNat) (by omega) (by omega);rw [Nat.pow_one] at this;exact ⟨P.toNat, M.toNat, by omega, by omega, by omega, by omega, by omega, by omega, hc.2.2.2, rfl⟩
 rw [if_neg hc] at h;exact absurd rfl h
open Classical in
theorem prime_none {n d : Nat} (h : ∀ e, 2 ≤ e → e < d → ¬ e ∣ n) (hn : 2 ≤ n) (hd : n < d * d) : Cw.Prm n := by
 refine ⟨hn, fun e he => ?_⟩;obtain ⟨f, hf⟩ := he;by_cases h1 : e = 1
 ·exact Or.inl h1
 by_cases h2 : e = n
 ·exact Or.inr h2
 exfalso
 have e0 : e ≠ 0 := by rintro rfl; omega
 have f0 : f ≠ 0 := by rintro rfl; omega
 have f1 : f ≠ 1 := by rintro rfl; omega
 have a := h e (by omega);have b := h f (by omega)
 have ha : d ≤ e := by
  by_cases hh : d ≤ e
  ·exact hh
  exact absurd ⟨f, hf⟩ (a (by omega))
 have hb : d ≤ f := by
  by_cases hh : d ≤ f
  ·exact hh
  exact absurd ⟨e, by rw [hf, Nat.mul_comm]⟩ (b (by omega))
 have := Nat.mul_le_mul ha hb;omega
theorem not_prm {n d : Nat} (hd : 2 ≤ d) (hn : d < n) (h : d ∣ n) : ¬ Cw.Prm n := fun hp => by
 rcases hp.2 d h with h | h <;> omega
open Classical in
theorem isPrime_loop (n : Nat) (hn : n ≤ 65536) (hn2 : 2 ≤ n) : ∀ g d, d + g = 300 → 2 ≤ d → (∀ e, 2 ≤ e → e < d → ¬ e ∣ n) → Ev (fun k => field_isPrime.l0 k (n : Int) (d : Int)) (decide (Cw.Prm n)) := by
 intro g;induction g with
 | zero =>
  intro d hd h2 h;obtain rfl : d = 300 := by omega
  refine Ev.step (f := fun _ => some _) (fun k => ?_) (Ev.now _);simp only [field_isPrime.l0];rw [w64 (by omega) (by omega), if_neg (by omega), decide_eq_true (prime_none h hn2 (by omega)), decide_eq_true (by omega)]
 | succ g ih =>
  intro d hd h2 h;have hdd : d * d ≤ 300 * 300 := Nat.mul_le_mul (by omega) (by omega)
  have hw : wrap64 ((d : Int) * (d : Int)) = ((d * d : Nat) : Int) := by
   rw [← Int.natCast_mul];exact w64n _ (by omega)
  by_cases hc : d * d ≤ n
  ·by_cases hdv : d ∣ n
   ·have hlt : d < n := by
     have : 2 * d ≤ d * d := Nat.mul_le_mul_right _ h2;omega
    refine Ev.step (f := fun _ => some _) (fun k => ?_) (Ev.now _);simp only [field_isPrime.l0];rw [hw, if_pos (by omega), if_neg (by omega), Cw.tmod_nat, Nat.mod_eq_zero_of_dvd hdv, if_pos (by rfl), decide_eq_false (not_prm h2 hlt hdv)]
   refine Ev.step (fun k => ?_) (ih (d + 1) (by omega) (by omega) (fun e he hlt => by
    by_cases hh : e = d
    ·rw [hh]; exact hdv
    exact h e he (by omega)))
   simp only [field_isPrime.l0];have : n % d ≠ 0 := fun h0 => hdv (Nat.dvd_of_mod_eq_zero h0)
   rw [hw, if_pos (by omega), if_neg (by omega), Cw.tmod_nat, if_neg (by omega), w64 (by omega) (by omega)];rfl
  refine Ev.step (f := fun _ => some _) (fun k => ?_) (Ev.now _);simp only [field_isPrime.l0];rw [hw, if_neg (by omega), decide_eq_true (prime_none h hn2 (by omega)), decide_eq_true (by omega)]
open Classical in
theorem isPrime_ev (n : Nat) (hn : n ≤ 65536) (hn2 : 2 ≤ n) : Ev (fun k => field_isPrime.f k (n : Int)) (decide (Cw.Prm n)) :=
 isPrime_loop n hn hn2 298 2 rfl (by omega) (fun e h1 h2 => by omega)
open Classical in
theorem prime04_loop (n : Nat) (hn : n ≤ 65536) (hn2 : 2 ≤ n) : ∀ g d, d + g = n → 2 ≤ d → (∀ e, 2 ≤ e → e < d → ¬ e ∣ n) → Ev (fun k => r4prime.l0 k (n : Int) (d : Int)) (decide (Cw.Prm n)) := by
 intro g;induction g with
 | zero =>
  intro d hd h2 h;obtain rfl : d = n := by omega
  refine Ev.step (f := fun _ => some _) (fun k => ?_) (Ev.now _);simp only [r4prime.l0];have : 2 * d ≤ d * d := Nat.mul_le_mul_right _ h2;rw [if_neg (by omega), decide_eq_true (prime_none h hn2 (by omega))]
 | succ g ih =>
  intro d hd h2 h;by_cases hdv : d ∣ n
  ·refine Ev.step (f := fun _ => some _) (fun k => ?_) (Ev.now _);simp only [r4prime.l0];rw [if_pos (by omega), if_neg (by omega), Cw.tmod_nat, Nat.mod_eq_zero_of_dvd hdv, if_pos (by rfl), decide_eq_false (not_prm h2 (by omega) hdv)]
  refine Ev.step (fun k => ?_) (ih (d + 1) (by omega) (by omega) (fun e he hlt => by
   by_cases hh : e = d
   ·rw [hh]; exact hdv
   exact h e he (by omega)))
  simp only [r4prime.l0];have : n % d ≠ 0 := fun h0 => hdv (Nat.dvd_of_mod_eq_zero h0)
  rw [if_pos (by omega), if_neg (by omega), Cw.tmod_nat, if_neg (by omega), w64 (by omega) (by omega)];rfl
open Classical in
theorem prime04_ev (n : Nat) (hn : n ≤ 65536) (hn2 : 2 ≤ n) : Ev (fun k => r4prime.f k (n : Int)) (decide (Cw.Prm n)) := by
 obtain ⟨g, hg⟩ := Nat.le.dest hn2;exact prime04_loop n hn hn2 g 2 hg (by omega) (fun e h1 h2 => by omega)
end Go.Proofs.Ytlbddjojhcgpiaa.Pl
end
-- Pa5
section
namespace Go.Proofs.Ytlbddjojhcgpiaa.P
noncomputable section
open Go.RowKit Go.Proofs.Ytlbddjojhcgpiaa.Hand Go.Proofs.YtlbddjojhcgpiaaW.PrintWords Go.Proofs.YtlbddjojhcgpiaaW.PrintLast Go.Proofs.YtlbddjojhcgpiaaW.PrintMore
set_option linter.unusedVariables false
set_option linter.unusedSimpArgs false
def r4Value.l0 : Nat → List Int → Int → Int → Int → Int → List Int → Option (Int)
 | 0, _, _, _, _, _, _ => none
 | k + 1, x1, x5, x6, x217000, x217001, x217002 => if x6 ≥ 0 then (if 0 ≤ x6 then (if x6 < (x1.length : Int) then (r4Value.l0 k x1 (wrap64 ((wrap64 (x5 * x217000)) + (rd x1 x6))) (wrap64 (x6 - 1)) x217000 x217001 x217002) else (none)) else (none)) else (some x5)
def r4Value.f (k : Nat) (a0_0 : Int) (a0_1 : Int) (l0_2 : List Int) (l1 : List Int) : Option (Int) := r4Value.l0 k l1 0 (wrap64 ((l1.length : Int) - 1)) a0_0 a0_1 l0_2
theorem r4Value.calls (k : Nat) (a0_0 : Int) (a0_1 : Int) (A0_2 : Option Addr) (c0_2 : Nat) (l0_2 : List Int) (A1 : Option Addr) (c1 : Nat) (l1 : List Int) (r : Int) (w : World) (hr0_2 : Kd.C (Kd.int .i64) w A0_2 l0_2.length l0_2) (hc0_2 : l0_2.length ≤ c0_2) (hr1 : Kd.C (Kd.int .i64) w A1 l1.length l1) (hc1 : l1.length ≤ c1) (h : r4Value.f k a0_0 a0_1 l0_2 l1 = some r) :
  Calls Try.prog 45 #[.agg #[.int .i64 a0_0, .int .i64 a0_1, .slice A0_2 l0_2.length c0_2], .slice A1 l1.length c1] w fun e w' => e = .returned (.int .i64 r) ∧ Below w.heap.size w w' := by
 have hu24 := Try.underlying24;have HR0_2 := Q9a.mk hr0_2;have HC0_2 := Q9a.mk hc0_2;clear hr0_2 hc0_2;have HR1 := Q9a.mk hr1;have HC1 := Q9a.mk hc1;clear hr1 hc1;have HB := Q9a.mk (Below.refl w.heap.size w);have H : (r4Value.l0 k l1 0 (wrap64 ((l1.length : Int) - 1)) a0_0 a0_1 l0_2) = some r := h;clear h;have H' := Q9a.mk H;clear H;go_enter Try.func45, Try.ntmps45
 go_wp2_with (first | ((with_reducible refine gD (N := 2) rfl ?_); refine bE ?hg (N := 2) ?hd (cs := #[.int .i64 a0_0, .int .i64 a0_1, .slice A0_2 l0_2.length c0_2]) (t := 24) ?hr ?_; (case hd => rfl); (case hg => rfl); (case hr => first | (go_simp; done) | (go_simp; rfl)); intro gb216 hg w3 hbox hb; have n0_ := Q9a.mk (bP (by repeat (first | (with_reducible first | exact HB.out | apply bA | apply bN | apply bD) | exact HB.out)) hb); have n1_ := Q9a.mk (hbox); have n2_ := Q9a.mk ((by rw [hg]; exact (bZ (by repeat (first | (with_reducible first | exact HB.out | apply bA | apply bN | apply bD) | exact HB.out))) : w.heap.size ≤ gb216)); have n3_ := n2_; clear HB; have HB := n0_; have BK216 := n1_; have GW216 := n2_; have GE216 := n3_; clear n0_ n1_ n2_ n3_; clear hb hbox hg))
 repeat (go_quiet (first | ((with_reducible refine gD (N := 2) rfl ?_); refine bE ?hg (N := 2) ?hd (cs := #[.int .i64 a0_0, .int .i64 a0_1, .slice A0_2 l0_2.length c0_2]) (t := 24) ?hr ?_; (case hd => rfl); (case hg => rfl); (case hr => first | (go_simp; done) | (go_simp; rfl)); intro gb216 hg w3 hbox hb; have n0_ := Q9a.mk (bP (by repeat (first | (with_reducible first | exact HB.out | apply bA | apply bN | apply bD) | exact HB.out)) hb); have n1_ := Q9a.mk (hbox); have n2_ := Q9a.mk ((by rw [hg]; exact (bZ (by repeat (first | (with_reducible first | exact HB.out | apply bA | apply bN | apply bD) | exact HB.out))) : w.heap.size ≤ gb216)); have n3_ := n2_; clear HB; have HB := n0_; have BK216 := n1_; have GW216 := n2_; have GE216 := n3_; clear n0_ n1_ n2_ n3_; clear hb hbox hg)); try go_wp2_with (first | ((with_reducible refine gD (N := 2) rfl ?_); refine bE ?hg (N := 2) ?hd (cs := #[.int .i64 a0_0, .int .i64 a0_1, .slice A0_2 l0_2.length c0_2]) (t := 24) ?hr ?_; (case hd => rfl); (case hg => rfl); (case hr => first | (go_simp; done) | (go_simp; rfl)); intro gb216 hg w3 hbox hb; have n0_ := Q9a.mk (bP (by repeat (first | (with_reducible first | exact HB.out | apply bA | apply bN | apply bD) | exact HB.out)) hb); have n1_ := Q9a.mk (hbox); have n2_ := Q9a.mk ((by rw [hg]; exact (bZ (by repeat (first | (with_reducible first | exact HB.out | apply bA | apply bN | apply bD) | exact HB.out))) : w.heap.size ≤ gb216)); have n3_ := n2_; clear HB; have HB := n0_; have BK216 := n1_; have GW216 := n2_; have GE216 := n3_; clear n0_ n1_ n2_ n3_; clear hb hbox hg)))
 go_loopg [5, 6] k (fun kq v5 v6 w' => ∃ (x5_1 : Int) (x6_1 : Int), v5 = .int .i64 x5_1 ∧ v6 = .int .i64 x6_1 ∧ Q9a (r4Value.l0 kq l1 x5_1 x6_1 a0_0 a0_1 l0_2 = some r) ∧ Q9a (kq ≤ k) ∧ Q9a (w'.heap[gb216]? = some (.cells #[.int .i64 a0_0, .int .i64 a0_1, (.slice A0_2 l0_2.length c0_2)] 24 (0, 0))) ∧ Q9a (Below w.heap.size w w'))
 case atStart => exact ⟨(0), (wrap64 ((l1.length : Int) - 1)), (by first | rfl | (simp; done) | (simp [*]; done)), (by first | rfl | (simp; done) | (simp [*]; done)), H', ⟨Nat.le_refl _⟩, ⟨by (with_reducible repeat (first | refine kN ?_ _ | refine kD ?_ | refine kA ?_ _)); exact BK216.out⟩, ⟨by repeat (first | (with_reducible first | exact HB.out | apply bA | apply bN | apply bD | refine bS ?_ GE216.out) | exact HB.out)⟩⟩
 case round =>
  clear H';try clear c1
  try clear p2
  obtain ⟨x5_1, x6_1, rfl, rfl, HA, HK1, BK216, HB⟩ := hrel
  cases gk with
  | zero => exact absurd HA.out (by simp [r4Value.l0])
  | succ k1 =>
   have H := HA.out;clear HA;simp only [r4Value.l0] at H;by_cases c4 : x6_1 ≥ 0
   ·rw [if_pos c4] at H;have c4b0 : decide (0 ≤ x6_1) = true := decide_eq_true c4;clear c4;by_cases c5 : 0 ≤ x6_1
    ·rw [if_pos c5] at H;have c5b0 : decide (0 ≤ x6_1) = true := decide_eq_true c5;clear c5;by_cases c6 : x6_1 < (l1.length : Int)
     ·rw [if_pos c6] at H;have c6b0 : decide (x6_1 < (l1.length : Int)) = true := decide_eq_true c6;clear c6;have H' := Q9a.mk H;clear H;have hcz7_0 : wr.cell? ⟨gb216, 0, none⟩ = some (.int .i64 a0_0) := (kC BK216.out 0).trans rfl;have hcz7_1 : wr.cell? ⟨gb216, 1, none⟩ = some (.int .i64 a0_1) := (kC BK216.out 1).trans rfl;have hcz7_2 : wr.cell? ⟨gb216, 2, none⟩ = some (.slice A0_2 l0_2.length c0_2) := (kC BK216.out 2).trans rfl;have hfz7_0 := kF BK216.out 0;have hfz7_1 := kF BK216.out 1;have hfz7_2 := kF BK216.out 2;have p217 : 0 ≤ (x6_1 : Int) := of_decide_eq_true (by first | (with_reducible assumption) | assumption);have q217 : x6_1 < (l1.length : Int) := of_decide_eq_true (by first | (with_reducible assumption) | assumption);obtain ⟨ad217, e217, hx217_0⟩ := Kd.at_int HR1.out x6_1 p217 q217
      cases e217
      replace hx217_0 := (HB.out.cell (World.block_lt_of_cell? w _ hx217_0)).trans hx217_0;replace p217 := eq_true p217;replace q217 := eq_true q217;go_wp2
      repeat (go_quiet (fail); try go_wp2)
      go_roundg k1
      case measure => have := HK1.out; omega
      case rel => exact ⟨(wrap64 ((wrap64 (x5_1 * a0_0)) + (rd l1 x6_1))), (wrap64 (x6_1 - 1)), (by first | rfl | (simp; done) | (simp [*]; done)), (by first | rfl | (simp; done) | (simp [*]; done)), H', ⟨by have := HK1.out; omega⟩, ⟨by (with_reducible repeat (first | refine kN ?_ _ | refine kD ?_ | refine kA ?_ _)); exact BK216.out⟩, ⟨by repeat (first | (with_reducible first | exact HB.out | apply bA | apply bN | apply bD | refine bS ?_ GE216.out) | exact HB.out)⟩⟩
     rw [if_neg c6] at H;exact absurd H (by simp)
    rw [if_neg c5] at H;exact absurd H (by simp)
   rw [if_neg c4] at H;have c4b0 : decide (0 ≤ x6_1) = false := decide_eq_false c4;clear c4;obtain rfl := Option.some.inj H;go_wp2
   repeat (go_quiet (fail); try go_wp2)
   go_ret
   exact ⟨by first | rfl | (simp [*, eN, eS] <;> rfl), by repeat (first | (with_reducible first | exact HB.out | apply bA | apply bN | apply bD | refine bS ?_ GE216.out) | exact HB.out)⟩
end
end Go.Proofs.Ytlbddjojhcgpiaa.P
end
-- D2
section
namespace Go.Proofs.Ytlbddjojhcgpiaa.Pl
open Go.RowKit Go.Proofs.Ytlbddjojhcgpiaa.P Go.Proofs.YtlbddjojhcgpiaaW.PrintWords
def ints (l : List Nat) : List Int := l.map (fun a : Nat => (a : Int))
theorem ints_length (l : List Nat) : (ints l).length = l.length := by simp [ints]
theorem ints_append (a b : List Nat) : ints (a ++ b) = ints a ++ ints b := by simp [ints]
theorem ints_cons (a : Nat) (b : List Nat) : ints (a :: b) = (a : Int) :: ints b := rfl
theorem ints_zero (d : Nat) : List.replicate d (0 : Int) = ints (List.replicate d 0) := by simp [ints]
theorem rd_at {a b : List Int} {x : Int} {i : Int} (h : i = (a.length : Int)) : rd (a ++ x :: b) i = x := by
 subst h;unfold rd
 rw [Int.toNat_natCast, List.getD_eq_getElem?_getD, List.getElem?_append_right (Nat.le_refl _)];simp
theorem rd_ints (l : List Nat) (i : Nat) : rd (ints l) (i : Int) = ((l.getD i 0 : Nat) : Int) := by
 unfold rd ints
 rw [Int.toNat_natCast, List.getD_eq_getElem?_getD, List.getD_eq_getElem?_getD, List.getElem?_map]
 cases l[i]? <;> rfl
theorem set_at {a b : List Int} {x y : Int} {i : Nat} (h : i = a.length) : (a ++ x :: b).set i y = a ++ y :: b := by
 subst h;rw [List.set_append_right _ _ (Nat.le_refl _), Nat.sub_self];rfl
theorem digitsOf_loop (p : Nat) (hp : 0 < p) (m : Nat) (hm : m < 4294967296) : ∀ (d : Nat) (y : Nat) (A : List Nat), y < 4294967296 → A.length + d = m →
  Ev (fun k => field_digitsOf.l0 k (y : Int) (p : Int) (ints (A ++ List.replicate d 0)) (m : Int) (A.length : Int)) (ints (A ++ Cw.dg p d y)) := by
 intro d;induction d with
 | zero =>
  intro y A hy hA;refine Ev.step (f := fun _ => some _) (fun k => ?_) (Ev.now _);simp only [field_digitsOf.l0];rw [if_neg (by omega)];rfl
 | succ d ih =>
  intro y A hy hA;have h := ih (y / p) (A ++ [y % p]) (Nat.lt_of_le_of_lt (Nat.div_le_self _ _) hy) (by simp; omega);have e : A ++ Cw.dg p (d + 1) y = (A ++ [y % p]) ++ Cw.dg p d (y / p) := by simp [Cw.dg]
  rw [e];refine Ev.step (fun k => ?_) h;simp only [field_digitsOf.l0];have hd := Nat.div_le_self y p
  have hs : (ints (A ++ List.replicate (d + 1) 0)).set A.length (((y % p : Nat)) : Int) = ints (A ++ [y % p] ++ List.replicate d 0) := by
   rw [List.replicate_succ, ints_append, ints_cons, set_at (by rw [ints_length]), List.append_assoc, ints_append];rfl
  rw [if_pos (by omega), if_neg (by omega), if_pos (by omega), if_pos (by rw [ints_length, List.length_append, List.length_replicate]; omega), Cw.tdiv_nat, Cw.tmod_nat, w64n _ (by omega), w64 (by omega) (by omega), Int.toNat_natCast, hs];rw [List.length_append];rfl
theorem digitsOf_ev (x p m : Nat) (hx : x < 4294967296) (hp : 0 < p) (hm : m < 4294967296) : Ev (fun k => field_digitsOf.f k (x : Int) (p : Int) (m : Int)) (ints (Cw.dg p m x)) := by
 have h := digitsOf_loop p hp m hm m x [] hx (by simp);refine Ev.congr (fun k => ?_) h;unfold field_digitsOf.f
 rw [if_pos (by omega), if_pos (by omega), Option.bind_some, Int.toNat_natCast, ints_zero, ints_length, List.length_replicate];rfl
theorem digits04_loop (p : Nat) (hp : 0 < p) (m : Nat) (hm : m < 4294967296) : ∀ (d : Nat) (y : Nat) (A : List Nat), y < 4294967296 → A.length + d = m →
  Ev (fun k => r4digits.l0 k (y : Int) (p : Int) (m : Int) (ints (A ++ List.replicate d 0)) (A.length : Int)) (ints (A ++ Cw.dg p d y)) := by
 intro d;induction d with
 | zero =>
  intro y A hy hA;refine Ev.step (f := fun _ => some _) (fun k => ?_) (Ev.now _);simp only [r4digits.l0];rw [if_neg (by omega)];rfl
 | succ d ih =>
  intro y A hy hA;have h := ih (y / p) (A ++ [y % p]) (Nat.lt_of_le_of_lt (Nat.div_le_self _ _) hy) (by simp; omega);have e : A ++ Cw.dg p (d + 1) y = (A ++ [y % p]) ++ Cw.dg p d (y / p) := by simp [Cw.dg]
  rw [e];refine Ev.step (fun k => ?_) h;simp only [r4digits.l0];have hd := Nat.div_le_self y p
  have hs : (ints (A ++ List.replicate (d + 1) 0)).set A.length (((y % p : Nat)) : Int) = ints (A ++ [y % p] ++ List.replicate d 0) := by
   rw [List.replicate_succ, ints_append, ints_cons, set_at (by rw [ints_length]), List.append_assoc, ints_append];rfl
  rw [if_pos (by omega), if_neg (by omega), if_pos (by omega), if_pos (by rw [ints_length, List.length_append, List.length_replicate]; omega), Cw.tdiv_nat, Cw.tmod_nat, w64n _ (by omega), w64 (by omega) (by omega), Int.toNat_natCast, hs];rw [List.length_append];rfl
theorem digits04_ev (x p m : Nat) (hx : x < 4294967296) (hp : 0 < p) (hm : m < 4294967296) : Ev (fun k => r4digits.f k (x : Int) (p : Int) (m : Int)) (ints (Cw.dg p m x)) := by
 have h := digits04_loop p hp m hm m x [] hx (by simp);refine Ev.congr (fun k => ?_) h;unfold r4digits.f
 rw [if_pos (by omega), if_pos (by omega), Int.toNat_natCast, ints_zero];rfl
theorem cd_le {p : Nat} {l : List Nat} (hl : ∀ a, a ∈ l → a < p) (hs : p ^ l.length ≤ 65536) : Cw.cd p l < 65536 := Nat.lt_of_lt_of_le (Cw.cd_lt l hl) hs
theorem pow_suffix {p : Nat} (hp : 0 < p) (A B : List Nat) (hs : p ^ (A ++ B).length ≤ 65536) : p ^ B.length ≤ 65536 := by
 rw [List.length_append] at hs;exact Nat.le_trans (Nat.pow_le_pow_right hp (by omega)) hs
theorem valueOf_loop (p : Nat) (hp : 0 < p) (hp2 : p ≤ 65536) : ∀ (n : Nat) (A B : List Nat), A.length = n → (∀ a, a ∈ A ++ B → a < p) → p ^ (A ++ B).length ≤ 65536 → (A ++ B).length ≤ 65536 →
  Ev (fun k => field_valueOf.l0 k (ints (A ++ B)) (p : Int) (Cw.cd p B : Int) ((n : Int) - 1)) (Cw.cd p (A ++ B) : Int) := by
 intro n;induction n with
 | zero =>
  intro A B hA hl hs hb;obtain rfl := List.length_eq_zero_iff.1 hA;refine Ev.step (f := fun _ => some _) (fun k => ?_) (Ev.now _);simp only [field_valueOf.l0];rw [if_neg (by omega)];rfl
 | succ n ih =>
  intro A B hA hl hs hb;obtain ⟨A', a, rfl⟩ := Cw.snoc_ex A (by rintro rfl; simp at hA);simp at hA
  have e : A' ++ [a] ++ B = A' ++ (a :: B) := by simp
  rw [e] at hl hs hb ⊢;have h := ih A' (a :: B) hA hl hs hb;refine Ev.step (fun k => ?_) h;simp only [field_valueOf.l0]
  have hB := cd_le (p := p) (l := B) (fun x hx => hl x (by simp [hx])) (by
   have := pow_suffix hp (A' ++ [a]) B (by rw [e]; exact hs);exact this)
  have ha := hl a (by simp);have hm : Cw.cd p B * p ≤ 65536 * 65536 := Nat.mul_le_mul (by omega) hp2
  have hr : rd (ints (A' ++ a :: B)) (((n + 1 : Nat) : Int) - 1) = (a : Int) := by
   rw [ints_append, ints_cons];exact rd_at (by rw [ints_length]; omega)
  have hv : Cw.cd p (a :: B) = Cw.cd p B * p + a := by simp [Cw.cd, Nat.mul_comm, Nat.add_comm]
  rw [if_pos (by omega), if_pos (by omega), if_pos (by rw [ints_length, List.length_append, List.length_cons]; omega), hr, ← Int.natCast_mul, w64n _ (by omega), ← Int.natCast_add, w64n _ (by omega), w64 (by omega) (by rw [List.length_append] at hb; omega), ← hv];congr 1
  omega
theorem valueOf_ev (p : Nat) (l : List Nat) (hp : 0 < p) (hp2 : p ≤ 65536) (hl : ∀ a, a ∈ l → a < p) (hs : p ^ l.length ≤ 65536) (hb : l.length ≤ 65536) : Ev (fun k => field_valueOf.f k (ints l) (p : Int)) (Cw.cd p l : Int) := by
 have h := valueOf_loop p hp hp2 l.length l [] rfl (by simpa using hl) (by simpa using hs) (by simpa using hb);rw [List.append_nil] at h;refine Ev.congr (fun k => ?_) h;unfold field_valueOf.f
 rw [ints_length, w64 (by omega) (by omega)];rfl
theorem value04_loop (p : Nat) (hp : 0 < p) (hp2 : p ≤ 65536) (M : Int) (l : List Int) : ∀ (n : Nat) (A B : List Nat), A.length = n → (∀ a, a ∈ A ++ B → a < p) → p ^ (A ++ B).length ≤ 65536 → (A ++ B).length ≤ 65536 →
  Ev (fun k => r4Value.l0 k (ints (A ++ B)) (Cw.cd p B : Int) ((n : Int) - 1) (p : Int) M l) (Cw.cd p (A ++ B) : Int) := by
 intro n;induction n with
 | zero =>
  intro A B hA hl hs hb;obtain rfl := List.length_eq_zero_iff.1 hA;refine Ev.step (f := fun _ => some _) (fun k => ?_) (Ev.now _);simp only [r4Value.l0];rw [if_neg (by omega)];rfl
 | succ n ih =>
  intro A B hA hl hs hb;obtain ⟨A', a, rfl⟩ := Cw.snoc_ex A (by rintro rfl; simp at hA);simp at hA
  have e : A' ++ [a] ++ B = A' ++ (a :: B) := by simp
  rw [e] at hl hs hb ⊢;have h := ih A' (a :: B) hA hl hs hb;refine Ev.step (fun k => ?_) h;simp only [r4Value.l0]
  have hB := cd_le (p := p) (l := B) (fun x hx => hl x (by simp [hx])) (by
   have := pow_suffix hp (A' ++ [a]) B (by rw [e]; exact hs);exact this)
  have ha := hl a (by simp);have hm : Cw.cd p B * p ≤ 65536 * 65536 := Nat.mul_le_mul (by omega) hp2
  have hr : rd (ints (A' ++ a :: B)) (((n + 1 : Nat) : Int) - 1) = (a : Int) := by
   rw [ints_append, ints_cons];exact rd_at (by rw [ints_length]; omega)
  have hv : Cw.cd p (a :: B) = Cw.cd p B * p + a := by simp [Cw.cd, Nat.mul_comm, Nat.add_comm]
  rw [if_pos (by omega), if_pos (by omega), if_pos (by rw [ints_length, List.length_append, List.length_cons]; omega), hr, ← Int.natCast_mul, w64n _ (by omega), ← Int.natCast_add, w64n _ (by omega), w64 (by omega) (by rw [List.length_append] at hb; omega), ← hv];congr 1
  omega
theorem value04_ev (p : Nat) (l : List Nat) (M : Int) (mod : List Int) (hp : 0 < p) (hp2 : p ≤ 65536) (hl : ∀ a, a ∈ l → a < p) (hs : p ^ l.length ≤ 65536) (hb : l.length ≤ 65536) : Ev (fun k => r4Value.f k (p : Int) M mod (ints l)) (Cw.cd p l : Int) := by
 have h := value04_loop p hp hp2 M mod l.length l [] rfl (by simpa using hl) (by simpa using hs) (by simpa using hb);rw [List.append_nil] at h;refine Ev.congr (fun k => ?_) h;unfold r4Value.f
 rw [ints_length, w64 (by omega) (by omega)];rfl
end Go.Proofs.Ytlbddjojhcgpiaa.Pl
end
-- Gs0
section
namespace Go.Proofs.Ytlbddjojhcgpiaa.GS
noncomputable section
open Go.RowKit Go.Proofs.Ytlbddjojhcgpiaa.Hand Go.Proofs.YtlbddjojhcgpiaaW.PrintWords Go.Proofs.YtlbddjojhcgpiaaW.PrintLast Go.Proofs.YtlbddjojhcgpiaaW.PrintMore
set_option linter.unusedVariables false
set_option linter.unusedSimpArgs false
def errW : Option Int → Value
 | none => .nilIface
 | some c => .iface 0 (.int .i64 c)
theorem eN : errW none = .nilIface := rfl
theorem eS (c : Int) : errW (some c) = .iface 0 (.int .i64 c) := rfl
end
end Go.Proofs.Ytlbddjojhcgpiaa.GS
end
