/- What towerCoordinates_holds needs: texts Pa0, Pb0, Pa1, Pa2, Pa3, Pa4, Gs0, Gs1, GmL, GmA, put together. -/
import Derived.Test.YtlbddjojhcgpiaaKBC5
import Derived.Laws.StructEq
set_option linter.unusedVariables false
set_option linter.unusedSimpArgs false
set_option linter.unusedSectionVars false
set_option maxHeartbeats 8000000
set_option maxRecDepth 100000
-- Pa0
section
namespace Go.Proofs.Ytlbddjojhcgpiaa.P
noncomputable section
open Go.RowKit Go.Proofs.Ytlbddjojhcgpiaa.Hand Go.Proofs.YtlbddjojhcgpiaaW.PrintWords Go.Proofs.YtlbddjojhcgpiaaW.PrintLast Go.Proofs.YtlbddjojhcgpiaaW.PrintMore
set_option linter.unusedVariables false
set_option linter.unusedSimpArgs false
def errW : Option Int → Value
 | none => .nilIface
 | some c => .iface 0 (.int .i64 c)
theorem eN : errW none = .nilIface := rfl
theorem eS (c : Int) : errW (some c) = .iface 0 (.int .i64 c) := rfl
theorem info3 : (Try.prog.info? 3).map (fun i => (i.zero, i.size, i.bytes)) = some (some (.int .i64 0), 1, 8) := by kernel_rfl
theorem info4 : (Try.prog.info? 4).map (fun i => (i.zero, i.size, i.bytes)) = some (some (.bool false), 1, 1) := by kernel_rfl
end
end Go.Proofs.Ytlbddjojhcgpiaa.P
end
-- Pb0
section
namespace Go.Proofs.Ytlbddjojhcgpiaa.P
noncomputable section
open Go.RowKit Go.Proofs.Ytlbddjojhcgpiaa.Hand Go.Proofs.YtlbddjojhcgpiaaW.PrintWords Go.Proofs.YtlbddjojhcgpiaaW.PrintLast Go.Proofs.YtlbddjojhcgpiaaW.PrintMore
set_option linter.unusedVariables false
set_option linter.unusedSimpArgs false
theorem info22 : (Try.prog.info? 22).map (fun i => (i.zero, i.size, i.bytes)) = some (some (.slice none 0 0), 1, 24) := by kernel_rfl
def rd_L2 (xs : List (List Int)) (i : Int) : (List Int) := xs.getD i.toNat ([] : List Int)
theorem at_L2 {w : World} {A : Option Addr} {n : Nat} {xs : List (List Int)} (h : Kd.C (Kd.slice 3 (Kd.int .i64)) w A n xs) (i : Int) (h0 : 0 ≤ i) (h1 : i < n) : ∃ ad A0 c0, A = some ad ∧ w.cell? (ad.add i.toNat) = some (.slice A0 (rd_L2 xs i).length c0) ∧ (rd_L2 xs i).length ≤ c0 ∧ (Kd.int .i64).C w A0 (rd_L2 xs i).length (rd_L2 xs i) := by
 obtain ⟨ad, c, e, _, hK, hc0⟩ := Kd.C_get h ([] : List Int) i h0 h1;have hc : ∀ j u, c[j]? = some u → w.cell? (ad.add (i.toNat * 1 + j)) = some u := hc0;obtain ⟨A0, c0, rfl, l0, g0⟩ := hK;exact ⟨ad, A0, c0, e, by have hq := hc 0 _ rfl; rwa [Nat.mul_one, Nat.add_zero] at hq, l0, g0⟩
end
end Go.Proofs.Ytlbddjojhcgpiaa.P
end
-- Pa1
section
namespace Go.Proofs.Ytlbddjojhcgpiaa.P
noncomputable section
open Go.RowKit Go.Proofs.Ytlbddjojhcgpiaa.Hand Go.Proofs.YtlbddjojhcgpiaaW.PrintWords Go.Proofs.YtlbddjojhcgpiaaW.PrintLast Go.Proofs.YtlbddjojhcgpiaaW.PrintMore
set_option linter.unusedVariables false
set_option linter.unusedSimpArgs false
mutual
def r4Order.j0 : Nat → Bool → Int → Int → List Int → Option (Int)
 | 0, _, _, _, _ => none
 | k + 1, x17, x102000, x102001, x102002 => if x17 = true then (some 0) else (r4Order.l0 k 1 0 x102000 x102001 x102002)
def r4Order.l0 : Nat → Int → Int → Int → Int → List Int → Option (Int)
 | 0, _, _, _, _, _ => none
 | k + 1, x3, x4, x102000, x102001, x102002 => if x4 < x102001 then (if x102000 = 0 then (none) else (if x3 > (wrap64 (Int.tdiv 256 x102000)) then (some 0) else (r4Order.l0 k (wrap64 (x3 * x102000)) (wrap64 (x4 + 1)) x102000 x102001 x102002))) else (some x3)
end
def r4Order.f (k : Nat) (a0_0 : Int) (a0_1 : Int) (l0_2 : List Int) : Option (Int) := if a0_0 < 2 then (r4Order.j0 k true a0_0 a0_1 l0_2) else (if a0_1 < 1 then (r4Order.j0 k true a0_0 a0_1 l0_2) else (r4Order.j0 k (decide (a0_1 > 8)) a0_0 a0_1 l0_2))
theorem r4Order.calls (k : Nat) (a0_0 : Int) (a0_1 : Int) (A0_2 : Option Addr) (c0_2 : Nat) (l0_2 : List Int) (r : Int) (w : World) (hr0_2 : Kd.C (Kd.int .i64) w A0_2 l0_2.length l0_2) (hc0_2 : l0_2.length ≤ c0_2) (h : r4Order.f k a0_0 a0_1 l0_2 = some r) :
  Calls Try.prog 29 #[.agg #[.int .i64 a0_0, .int .i64 a0_1, .slice A0_2 l0_2.length c0_2]] w fun e w' => e = .returned (.int .i64 r) ∧ Below w.heap.size w w' := by
 have hu24 := Try.underlying24;have HR0_2 := Q9a.mk hr0_2;have HC0_2 := Q9a.mk hc0_2;clear hr0_2 hc0_2;have HB := Q9a.mk (Below.refl w.heap.size w);have H : (if a0_0 < 2 then (r4Order.j0 k true a0_0 a0_1 l0_2) else (if a0_1 < 1 then (r4Order.j0 k true a0_0 a0_1 l0_2) else (r4Order.j0 k (decide (a0_1 > 8)) a0_0 a0_1 l0_2))) = some r := h;clear h;have HC2 := Q9a.mk H;clear H;go_enter Try.func29, Try.ntmps29
 go_upto_region 1 with (first | ((with_reducible refine gD (N := 1) rfl ?_); refine bE ?hg (N := 1) ?hd (cs := #[.int .i64 a0_0, .int .i64 a0_1, .slice A0_2 l0_2.length c0_2]) (t := 24) ?hr ?_; (case hd => rfl); (case hg => rfl); (case hr => first | (go_simp; done) | (go_simp; rfl)); intro gb101 hg w3 hbox hb; have n0_ := Q9a.mk (bP (bI HB.out) hb); have n1_ := Q9a.mk (hbox); have n2_ := Q9a.mk ((by rw [hg]; exact (bZ (bI HB.out)) : w.heap.size ≤ gb101)); have n3_ := n2_; clear HB; have HB := n0_; have BK101 := n1_; have GW101 := n2_; have GE101 := n3_; clear n0_ n1_ n2_ n3_; clear hb hbox hg))
 (try simp only [Act.put, sz1, sz2, sz3])
 go_cut [17] (fun v17 wc => ∃ (kq : Nat) (x17_1 : Bool), v17 = .bool x17_1 ∧ Q9a (r4Order.j0 kq x17_1 a0_0 a0_1 l0_2 = some r) ∧ Q9a (kq ≤ k) ∧ Q9a (wc.heap[gb101]? = some (.cells #[.int .i64 a0_0, .int .i64 a0_1, (.slice A0_2 l0_2.length c0_2)] 24 (0, 0))) ∧ Q9a (Below w.heap.size w wc))
 case first =>
  have H := HC2.out;clear HC2;by_cases c4 : a0_0 < 2
  ·rw [if_pos c4] at H;have c4b0 : decide (a0_0 < 2) = true := decide_eq_true c4;clear c4;(first | rw [c4b0] | (simp only [i64_w, i32_w]; rw [c4b0]) | skip)
   have H' := Q9a.mk H;clear H;have hcz5_0 : w3.cell? ⟨gb101, 0, none⟩ = some (.int .i64 a0_0) := (kC BK101.out 0).trans rfl;have hcz5_1 : w3.cell? ⟨gb101, 1, none⟩ = some (.int .i64 a0_1) := (kC BK101.out 1).trans rfl;have hcz5_2 : w3.cell? ⟨gb101, 2, none⟩ = some (.slice A0_2 l0_2.length c0_2) := (kC BK101.out 2).trans rfl;have hfz5_0 := kF BK101.out 0;have hfz5_1 := kF BK101.out 1;have hfz5_2 := kF BK101.out 2;go_wp2
   go_meet
   case rel => exact ⟨_, (true), (by first | rfl | (simp; done) | (simp [*]; done)), H', ⟨by first | omega | exact Nat.le_refl _⟩, ⟨kI BK101.out⟩, ⟨bJ HB.out GE101.out⟩⟩
  rw [if_neg c4] at H;have c4b0 : decide (a0_0 < 2) = false := decide_eq_false c4;clear c4;(first | rw [c4b0] | (simp only [i64_w, i32_w]; rw [c4b0]) | skip)
  by_cases c6 : a0_1 < 1
  ·rw [if_pos c6] at H;have c6b0 : decide (a0_1 < 1) = true := decide_eq_true c6;clear c6;have H' := Q9a.mk H;clear H;have hcz7_0 : w3.cell? ⟨gb101, 0, none⟩ = some (.int .i64 a0_0) := (kC BK101.out 0).trans rfl;have hcz7_1 : w3.cell? ⟨gb101, 1, none⟩ = some (.int .i64 a0_1) := (kC BK101.out 1).trans rfl;have hcz7_2 : w3.cell? ⟨gb101, 2, none⟩ = some (.slice A0_2 l0_2.length c0_2) := (kC BK101.out 2).trans rfl;have hfz7_0 := kF BK101.out 0;have hfz7_1 := kF BK101.out 1;have hfz7_2 := kF BK101.out 2;go_wp2
   go_meet
   case rel => exact ⟨_, (true), (by first | rfl | (simp; done) | (simp [*]; done)), H', ⟨by first | omega | exact Nat.le_refl _⟩, ⟨kI BK101.out⟩, ⟨bJ HB.out GE101.out⟩⟩
  rw [if_neg c6] at H;have c6b0 : decide (a0_1 < 1) = false := decide_eq_false c6;clear c6;have H' := Q9a.mk H;clear H;have hcz8_0 : w3.cell? ⟨gb101, 0, none⟩ = some (.int .i64 a0_0) := (kC BK101.out 0).trans rfl;have hcz8_1 : w3.cell? ⟨gb101, 1, none⟩ = some (.int .i64 a0_1) := (kC BK101.out 1).trans rfl;have hcz8_2 : w3.cell? ⟨gb101, 2, none⟩ = some (.slice A0_2 l0_2.length c0_2) := (kC BK101.out 2).trans rfl;have hfz8_0 := kF BK101.out 0;have hfz8_1 := kF BK101.out 1;have hfz8_2 := kF BK101.out 2;go_wp2
  go_meet
  case rel => exact ⟨_, (decide (a0_1 > 8)), (by first | rfl | (simp; done) | (simp [*]; done)), H', ⟨by first | omega | exact Nat.le_refl _⟩, ⟨kI BK101.out⟩, ⟨bJ HB.out GE101.out⟩⟩
 case rest =>
  clear HC2;try clear c2
  try clear p2
  try clear c4
  try clear c4b0
  try clear c6
  try clear c6b0
  try clear hcz5_0
  try clear hcz5_1
  try clear hcz5_2
  try clear hcz7_0
  try clear hcz7_1
  try clear hcz7_2
  try clear hcz8_0
  try clear hcz8_1
  try clear hcz8_2
  try clear hfz5_0
  try clear hfz5_1
  try clear hfz5_2
  try clear hfz7_0
  try clear hfz7_1
  try clear hfz7_2
  try clear hfz8_0
  try clear hfz8_1
  try clear hfz8_2
  obtain ⟨kq, x17_1, rfl, HA, HJ1, BK101, HB⟩ := hcut
  cases kq with
  | zero => exact absurd HA.out (by simp [r4Order.j0])
  | succ kj1 =>
   have H := HA.out;clear HA;simp only [r4Order.j0] at H;by_cases c9 : x17_1 = true
   ·subst c9;have H1 : (some 0) = some r := by rw [if_pos rfl] at H; exact H
    clear H;have H := H1;clear H1;obtain rfl := Option.some.inj H;go_wp2
    go_ret
    exact ⟨by first | rfl | (simp [*, eN, eS] <;> rfl), bJ HB.out GE101.out⟩
   replace c9 := Bool.eq_false_iff.mpr c9;subst c9;have H1 : (r4Order.l0 kj1 1 0 a0_0 a0_1 l0_2) = some r := by rw [if_neg (show ¬ (false = true) by decide)] at H; exact H
   clear H;have H := H1;clear H1;have H' := Q9a.mk H;clear H;go_wp2
   go_loopg [3, 4] kj1 (fun kq v3 v4 w' => ∃ (x3_2 : Int) (x4_2 : Int), v3 = .int .i64 x3_2 ∧ v4 = .int .i64 x4_2 ∧ Q9a (r4Order.l0 kq x3_2 x4_2 a0_0 a0_1 l0_2 = some r) ∧ Q9a (kq ≤ kj1) ∧ Q9a (w'.heap[gb101]? = some (.cells #[.int .i64 a0_0, .int .i64 a0_1, (.slice A0_2 l0_2.length c0_2)] 24 (0, 0))) ∧ Q9a (Below w.heap.size w w'))
   case atStart => exact ⟨(1), (0), (by first | rfl | (simp; done) | (simp [*]; done)), (by first | rfl | (simp; done) | (simp [*]; done)), H', ⟨Nat.le_refl _⟩, ⟨kI BK101.out⟩, ⟨bJ HB.out GE101.out⟩⟩
   case round =>
    clear H';try clear c2
    try clear p2
    try clear c4
    try clear c4b0
    try clear c6
    try clear c6b0
    try clear c9
    try clear hcz5_0
    try clear hcz5_1
    try clear hcz5_2
    try clear hcz7_0
    try clear hcz7_1
    try clear hcz7_2
    try clear hcz8_0
    try clear hcz8_1
    try clear hcz8_2
    try clear hfz5_0
    try clear hfz5_1
    try clear hfz5_2
    try clear hfz7_0
    try clear hfz7_1
    try clear hfz7_2
    try clear hfz8_0
    try clear hfz8_1
    try clear hfz8_2
    try clear p2
    obtain ⟨x3_2, x4_2, rfl, rfl, HA, HK2, BK101, HB⟩ := hrel
    cases gk with
    | zero => exact absurd HA.out (by simp [r4Order.l0])
    | succ k2 =>
     have H := HA.out;clear HA;simp only [r4Order.l0] at H;by_cases c10 : x4_2 < a0_1
     ·rw [if_pos c10] at H;have c10b0 : decide (x4_2 < a0_1) = true := decide_eq_true c10;clear c10;by_cases c11 : a0_0 = 0
      ·rw [if_pos c11] at H;exact absurd H (by simp)
      rw [if_neg c11] at H;have c11b0 : (a0_0 == 0) = false := beq_eq_false_iff_ne.mpr c11;have c11b1 : (a0_0 != 0) = true := bne_iff_ne.mpr c11;by_cases c12 : x3_2 > (wrap64 (Int.tdiv 256 a0_0))
      ·rw [if_pos c12] at H;have c12b0 : decide ((wrap64 (Int.tdiv 256 a0_0)) < x3_2) = true := decide_eq_true c12;clear c12;obtain rfl := Option.some.inj H;have hcz13_0 : wr.cell? ⟨gb101, 0, none⟩ = some (.int .i64 a0_0) := (kC BK101.out 0).trans rfl;have hcz13_1 : wr.cell? ⟨gb101, 1, none⟩ = some (.int .i64 a0_1) := (kC BK101.out 1).trans rfl;have hcz13_2 : wr.cell? ⟨gb101, 2, none⟩ = some (.slice A0_2 l0_2.length c0_2) := (kC BK101.out 2).trans rfl;have hfz13_0 := kF BK101.out 0;have hfz13_1 := kF BK101.out 1;have hfz13_2 := kF BK101.out 2;go_wp2
       go_ret
       exact ⟨by first | rfl | (simp [*, eN, eS] <;> rfl), bJ HB.out GE101.out⟩
      rw [if_neg c12] at H;have c12b0 : decide ((wrap64 (Int.tdiv 256 a0_0)) < x3_2) = false := decide_eq_false c12;clear c12;have H' := Q9a.mk H;clear H;have hcz14_0 : wr.cell? ⟨gb101, 0, none⟩ = some (.int .i64 a0_0) := (kC BK101.out 0).trans rfl;have hcz14_1 : wr.cell? ⟨gb101, 1, none⟩ = some (.int .i64 a0_1) := (kC BK101.out 1).trans rfl;have hcz14_2 : wr.cell? ⟨gb101, 2, none⟩ = some (.slice A0_2 l0_2.length c0_2) := (kC BK101.out 2).trans rfl;have hfz14_0 := kF BK101.out 0;have hfz14_1 := kF BK101.out 1;have hfz14_2 := kF BK101.out 2;go_wp2
      go_roundg k2
      case measure => have := HJ1.out; have := HK2.out; omega
      case rel => exact ⟨(wrap64 (x3_2 * a0_0)), (wrap64 (x4_2 + 1)), (by first | rfl | (simp; done) | (simp [*]; done)), (by first | rfl | (simp; done) | (simp [*]; done)), H', ⟨by have := HJ1.out; have := HK2.out; omega⟩, ⟨kI BK101.out⟩, ⟨bJ HB.out GE101.out⟩⟩
     rw [if_neg c10] at H;have c10b0 : decide (x4_2 < a0_1) = false := decide_eq_false c10;clear c10;obtain rfl := Option.some.inj H;have hcz15_0 : wr.cell? ⟨gb101, 0, none⟩ = some (.int .i64 a0_0) := (kC BK101.out 0).trans rfl;have hcz15_1 : wr.cell? ⟨gb101, 1, none⟩ = some (.int .i64 a0_1) := (kC BK101.out 1).trans rfl;have hcz15_2 : wr.cell? ⟨gb101, 2, none⟩ = some (.slice A0_2 l0_2.length c0_2) := (kC BK101.out 2).trans rfl;have hfz15_0 := kF BK101.out 0;have hfz15_1 := kF BK101.out 1;have hfz15_2 := kF BK101.out 2;go_wp2
     go_ret
     exact ⟨by first | rfl | (simp [*, eN, eS] <;> rfl), bJ HB.out GE101.out⟩
def r4prime.l0 : Nat → Int → Int → Option (Bool)
 | 0, _, _ => none
 | k + 1, x0, x3 => if x3 < x0 then (if x3 = 0 then (none) else (if (Int.tmod x0 x3) = 0 then (some false) else (r4prime.l0 k x0 (wrap64 (x3 + 1))))) else (some true)
def r4prime.f (k : Nat) (a0 : Int) : Option (Bool) := r4prime.l0 k a0 2
theorem r4prime.calls (k : Nat) (a0 : Int) (r : Bool) (w : World) (h : r4prime.f k a0 = some r) :
  Calls Try.prog 60 #[.int .i64 a0] w fun e w' => e = .returned (.bool r) ∧ Drawn0 w w' := by
 have H : (r4prime.l0 k a0 2) = some r := h;clear h;have H' := Q9a.mk H;clear H;go_enter Try.func60, Try.ntmps60
 go_wp2
 go_loopg [3] k (fun kq v3 w' => ∃ (x3_1 : Int), v3 = .int .i64 x3_1 ∧ Q9a (r4prime.l0 kq a0 x3_1 = some r) ∧ Q9a (kq ≤ k) ∧ Drawn0 w w')
 case atStart => exact ⟨(2), (by first | rfl | (simp; done) | (simp [*]; done)), H', ⟨Nat.le_refl _⟩, by repeat (first | exact Drawn0.refl _ | apply Drawn0.step)⟩
 case round =>
  clear H';obtain ⟨x3_1, rfl, HA, HK1, ⟨m1, rfl⟩⟩ := hrel
  cases gk with
  | zero => exact absurd HA.out (by simp [r4prime.l0])
  | succ k1 =>
   have H := HA.out;clear HA;simp only [r4prime.l0] at H;by_cases c2 : x3_1 < a0
   ·rw [if_pos c2] at H;have c2b0 : decide (x3_1 < a0) = true := decide_eq_true c2;clear c2;by_cases c3 : x3_1 = 0
    ·rw [if_pos c3] at H;exact absurd H (by simp)
    rw [if_neg c3] at H;have c3b0 : (x3_1 == 0) = false := beq_eq_false_iff_ne.mpr c3;have c3b1 : (x3_1 != 0) = true := bne_iff_ne.mpr c3;by_cases c4 : (Int.tmod a0 x3_1) = 0
    ·rw [if_pos c4] at H;have c4b0 : ((Int.tmod a0 x3_1) == 0) = true := beq_iff_eq.mpr c4;have c4b1 : ((Int.tmod a0 x3_1) != 0) = false := bne_eq_false_iff_eq.mpr c4;clear c4;obtain rfl := Option.some.inj H;go_wp2
     go_ret
     exact ⟨by first | rfl | (simp; done) | (simp [*]; done), by repeat (first | exact Drawn0.refl _ | apply Drawn0.step)⟩
    rw [if_neg c4] at H;have c4b0 : ((Int.tmod a0 x3_1) == 0) = false := beq_eq_false_iff_ne.mpr c4;have c4b1 : ((Int.tmod a0 x3_1) != 0) = true := bne_iff_ne.mpr c4;have H' := Q9a.mk H;clear H;go_wp2
    go_roundg k1
    case measure => have := HK1.out; omega
    case rel => exact ⟨(wrap64 (x3_1 + 1)), (by first | rfl | (simp; done) | (simp [*]; done)), H', ⟨by have := HK1.out; omega⟩, by repeat (first | exact Drawn0.refl _ | apply Drawn0.step)⟩
   rw [if_neg c2] at H;have c2b0 : decide (x3_1 < a0) = false := decide_eq_false c2;clear c2;obtain rfl := Option.some.inj H;go_wp2
   go_ret
   exact ⟨by first | rfl | (simp; done) | (simp [*]; done), by repeat (first | exact Drawn0.refl _ | apply Drawn0.step)⟩
def r4digits.l0 : Nat → Int → Int → Int → List Int → Int → Option (List Int)
 | 0, _, _, _, _, _ => none
 | k + 1, x0, x1, x2, x7, x8 => if x8 < x2 then (if x1 = 0 then (none) else (if 0 ≤ x8 then (if x8 < (x7.length : Int) then (r4digits.l0 k (wrap64 (Int.tdiv x0 x1)) x1 x2 (x7.set (x8 : Int).toNat (Int.tmod x0 x1)) (wrap64 (x8 + 1))) else (none)) else (none))) else (some x7)
def r4digits.f (k : Nat) (a0 : Int) (a1 : Int) (a2 : Int) : Option (List Int) := if 0 ≤ a2 then (if (a2 : Int).toNat ≤ 35184372088832 then (r4digits.l0 k a0 a1 a2 (List.replicate (a2 : Int).toNat 0) 0) else (none)) else (none)
theorem r4digits.calls (k : Nat) (a0 : Int) (a1 : Int) (a2 : Int) (r : List Int) (w : World) (h : r4digits.f k a0 a1 a2 = some r) :
  Calls Try.prog 72 #[.int .i64 a0, .int .i64 a1, .int .i64 a2] w fun e w' => ∃ v0_ : Value, e = .returned (v0_) ∧ Kd.R (Kd.int .i64) 3 w' w.heap.size (fun _ => True) v0_ r ∧ Below w.heap.size w w' := by
 have HB := Q9a.mk (Below.refl w.heap.size w);have H : (if 0 ≤ a2 then (if (a2 : Int).toNat ≤ 35184372088832 then (r4digits.l0 k a0 a1 a2 (List.replicate (a2 : Int).toNat 0) 0) else (none)) else (none)) = some r := h;clear h;by_cases c4 : 0 ≤ a2
 ·rw [if_pos c4] at H;have c4b0 := eq_true c4;have c4b1 : decide (0 ≤ a2) = true := decide_eq_true c4;clear c4;by_cases c5 : (a2 : Int).toNat ≤ 35184372088832
  ·rw [if_pos c5] at H;have c5b0 := eq_true c5;have c5b1 : decide ((a2 : Int).toNat ≤ 35184372088832) = true := decide_eq_true c5;clear c5;obtain ⟨y102, hy102⟩ : ∃ y_ : List Int, y_ = (List.replicate (a2 : Int).toNat 0) := ⟨_, rfl⟩;replace H : (r4digits.l0 k a0 a1 a2 y102 0) = some r := by first | (rw [hy102]; with_reducible exact H) | (have H2_ := (Option.bind_some _ _).symm.trans H; rw [hy102]; with_reducible exact H2_) | (have H2_ := (Option.bind_some _ _).symm.trans H; with_reducible exact H2_) | with_reducible exact H | (rw [hy102]; exact H) | exact H
   have Ny102 := Q9a.mk hy102;clear hy102;have H' := Q9a.mk H;clear H;go_enter Try.func72, Try.ntmps72
   go_wp2_with (first | ((with_reducible refine gD (N := 10) rfl ?_); refine Kd.R_make (Kd.int .i64) _ 3 rfl (N := 10) rfl 22 _ _ rfl a2 rfl rfl Try.underlying22 (.int .i64 0) 8 info3 rfl (by decide) (by omega) 0 (ok := fun _ => True) (okp := fun _ => True) rfl (fun _ hk => hk) trivial (of_decide_eq_true (by first | (with_reducible assumption) | assumption)) (Nat.le_trans (Nat.mul_le_mul_right _ (of_decide_eq_true (by first | (with_reducible assumption) | assumption) : a2.toNat ≤ 35184372088832)) (by omega)) (Below.refl _ _) (Nat.le_refl _) ?_; intro v103 w6 ho7 hb hg_ hnew_; clear hg_ hnew_; (first | rw [← Ny102.out] at ho7 | (simp only [Int.reduceToNat] at ho7; rw [← Ny102.out] at ho7)); have n0_ := Q9a.mk (Kd.rL ho7 (bZ (bI HB.out))); have n1_ := Q9a.mk (bP (bI HB.out) hb); clear HB; have HO104 := n0_; have HB := n1_; clear n0_ n1_; clear hb ho7))
   go_loopg [0, 8] k (fun kq v0 v8 w' => ∃ (x0_1 : Int) (x7_1 : List Int) (x8_1 : Int), v0 = .int .i64 x0_1 ∧ v8 = .int .i64 x8_1 ∧ Q9a (r4digits.l0 kq x0_1 a1 a2 x7_1 x8_1 = some r) ∧ Q9a (kq ≤ k) ∧ Q9a (Kd.R (Kd.int .i64) 3 w' w.heap.size (fun _ => True) v103 x7_1) ∧ Q9a (Below w.heap.size w w'))
   case atStart => exact ⟨(a0), (y102), (0), (by first | rfl | (simp; done) | (simp [*]; done)), (by first | rfl | (simp; done) | (simp [*]; done)), H', ⟨Nat.le_refl _⟩, ⟨rI HO104.out⟩, ⟨bI HB.out⟩⟩
   case round =>
    clear H';try clear p2
    try clear c4
    try clear c4b0
    try clear c4b1
    try clear c5
    try clear c5b0
    try clear c5b1
    try clear c7
    obtain ⟨x0_1, x7_1, x8_1, rfl, rfl, HA, HK1, HO_7, HB⟩ := hrel
    cases gk with
    | zero => exact absurd HA.out (by simp [r4digits.l0])
    | succ k1 =>
     have H := HA.out;clear HA;simp only [r4digits.l0] at H;by_cases c8 : x8_1 < a2
     ·rw [if_pos c8] at H;have c8b0 : decide (x8_1 < a2) = true := decide_eq_true c8;clear c8;by_cases c9 : a1 = 0
      ·rw [if_pos c9] at H;exact absurd H (by simp)
      rw [if_neg c9] at H;have c9b0 : (a1 == 0) = false := beq_eq_false_iff_ne.mpr c9;have c9b1 : (a1 != 0) = true := bne_iff_ne.mpr c9;by_cases c10 : 0 ≤ x8_1
      ·rw [if_pos c10] at H;have c10b0 : decide (0 ≤ x8_1) = true := decide_eq_true c10;clear c10;by_cases c11 : x8_1 < (x7_1.length : Int)
       ·rw [if_pos c11] at H;have c11b0 : decide (x8_1 < (x7_1.length : Int)) = true := decide_eq_true c11;clear c11;obtain ⟨y105, hy105⟩ : ∃ y_ : List Int, y_ = (x7_1.set (x8_1 : Int).toNat (Int.tmod x0_1 a1)) := ⟨_, rfl⟩;replace H : (r4digits.l0 k1 (wrap64 (Int.tdiv x0_1 a1)) a1 a2 y105 (wrap64 (x8_1 + 1))) = some r := by first | (rw [hy105]; with_reducible exact H) | (have H2_ := (Option.bind_some _ _).symm.trans H; rw [hy105]; with_reducible exact H2_) | (have H2_ := (Option.bind_some _ _).symm.trans H; with_reducible exact H2_) | with_reducible exact H | (rw [hy105]; exact H) | exact H
        have Ny105 := Q9a.mk hy105;clear hy105;have H' := Q9a.mk H;clear H;have p12 : 0 ≤ (x8_1 : Int) := of_decide_eq_true (by first | (with_reducible assumption) | assumption);have q12 : (x8_1 : Int) < ((x7_1.length : Int) : Int) := of_decide_eq_true (by first | (with_reducible assumption) | assumption);obtain ⟨go12, co12, eo12, gb12, gl12, cl12, HG12⟩ := Kd.R_form HO_7.out (by omega);(first | cases eo12 | (injection eo12 with ea_ en_ ec_; (first | subst ea_ | (injection ea_ with ea_; subst ea_)); subst ec_; clear en_))
        have GB12 := Q9a.mk gb12;have GG12 := Q9a.mk HG12;clear gb12 gl12 HG12;obtain ⟨hx12_0, hf12_0⟩ := Kd.R_celln 0 HO_7.out (x8_1 : Int) p12 q12;replace p12 := eq_true p12;replace q12 := eq_true q12;have HP13 := Kd.R_putg HO_7.out (x8_1 : Int) (Int.tmod x0_1 a1);go_wp2_with (first | ((with_reducible refine gate_store (t := 3) (p := 21) rfl ?_); refine store_event (t := 3) (p := 21) (v := ?vo_w14) (w1 := (wr.setCell ⟨go12, (x8_1 : Int).toNat, none⟩ (.int .i64 (Int.tmod x0_1 a1)))) ?hg ?ho ?hn ?hr ?_; (case ho => rfl); (case hg => rfl); (case hn => rfl); (case hr => first | (go_simp; done) | (go_simp; rfl)); intro w14 hw; have hg : wr.grownBy w14 (some go12) := (by rw [hw]; exact HP13.2); have hp_ : Kd.R (Kd.int .i64) 3 w14 w.heap.size (fun _ => True) (.slice (some ⟨go12, 0, none⟩) x7_1.length co12) y105 := (by rw [hw, Ny105.out]; exact HP13.1); clear HP13; have n0_ := Q9a.mk (hp_); have n1_ := Q9a.mk ((by rw [hw]; exact bS (HB.out) GB12.out : Below w.heap.size w w14)); clear HO_7; clear HB; have HO_7 := n0_; have HB := n1_; clear n0_ n1_; clear hg hw hp_))
        go_roundg k1
        case measure => have := HK1.out; omega
        case rel => exact ⟨(wrap64 (Int.tdiv x0_1 a1)), (y105), (wrap64 (x8_1 + 1)), (by first | rfl | (simp; done) | (simp [*]; done)), (by first | rfl | (simp; done) | (simp [*]; done)), H', ⟨by have := HK1.out; omega⟩, ⟨rI HO_7.out⟩, ⟨bI HB.out⟩⟩
       rw [if_neg c11] at H;exact absurd H (by simp)
      rw [if_neg c10] at H;exact absurd H (by simp)
     rw [if_neg c8] at H;have c8b0 : decide (x8_1 < a2) = false := decide_eq_false c8;clear c8;obtain rfl := Option.some.inj H;go_wp2
     go_ret
     exact ⟨_, by first | rfl | (simp [*, eN, eS] <;> rfl), rI HO_7.out, bI HB.out⟩
  rw [if_neg c5] at H;exact absurd H (by simp)
 rw [if_neg c4] at H;exact absurd H (by simp)
end
end Go.Proofs.Ytlbddjojhcgpiaa.P
end
-- Pa2
section
namespace Go.Proofs.Ytlbddjojhcgpiaa.P
noncomputable section
open Go.RowKit Go.Proofs.Ytlbddjojhcgpiaa.Hand Go.Proofs.YtlbddjojhcgpiaaW.PrintWords Go.Proofs.YtlbddjojhcgpiaaW.PrintLast Go.Proofs.YtlbddjojhcgpiaaW.PrintMore
set_option linter.unusedVariables false
set_option linter.unusedSimpArgs false
mutual
def r4divides.l0 : Nat → List Int → Int → Int → List Int → Int → Option (Bool)
 | 0, _, _, _, _, _ => none
 | k + 1, x0, x2, x7, x8, x9 => if x9 ≥ x7 then (if 0 ≤ x9 then (if x9 < (x8.length : Int) then (r4divides.l1 k x0 x2 x7 x8 x9 (rd x8 x9) 0) else (none)) else (none)) else (r4divides.l2 k x8 0)
def r4divides.l1 : Nat → List Int → Int → Int → List Int → Int → Int → Int → Option (Bool)
 | 0, _, _, _, _, _, _, _ => none
 | k + 1, x0, x2, x7, x8, x9, x10, x11 => if x11 < x7 then (if 0 ≤ (wrap64 ((wrap64 (x9 - x7)) + x11)) then (if (wrap64 ((wrap64 (x9 - x7)) + x11)) < (x8.length : Int) then (if 0 ≤ x11 then (if x11 < (x0.length : Int) then (if x2 = 0 then (none) else (r4divides.l1 k x0 x2 x7 (x8.set ((wrap64 ((wrap64 (x9 - x7)) + x11)) : Int).toNat (Int.tmod (wrap64 ((rd x8 (wrap64 ((wrap64 (x9 - x7)) + x11))) + (wrap64 ((wrap64 (x2 - x10)) * (rd x0 x11))))) x2)) x9 x10 (wrap64 (x11 + 1)))) else (none)) else (none)) else (none)) else (none)) else (if 0 ≤ x9 then (if x9 < (x8.length : Int) then (r4divides.l0 k x0 x2 x7 (x8.set (x9 : Int).toNat 0) (wrap64 (x9 - 1))) else (none)) else (none))
def r4divides.l2 : Nat → List Int → Int → Option (Bool)
 | 0, _, _ => none
 | k + 1, x8, x12 => if x12 < (x8.length : Int) then (if 0 ≤ x12 then (if (rd x8 x12) = 0 then (r4divides.l2 k x8 (wrap64 (x12 + 1))) else (some false)) else (none)) else (some true)
end
def r4divides.f (k : Nat) (l0 : List Int) (l1 : List Int) (a2 : Int) : Option (Bool) := (some (([] : List Int) : List Int)).bind fun y106 => (if y106.length + l1.length < 17592186044416 then ((some (y106 ++ l1 : List Int)).bind fun y109 => (if y109.length < 17592186044416 then ((some (y109 ++ [1] : List Int)).bind fun y112 => (r4divides.l0 k l0 a2 (l0.length : Int) y112 (wrap64 ((y112.length : Int) - 1)))) else (none))) else (none))
def r4divides.T11 : Bool × List (List Nat × List Nat) := (true, [([], []), ([], []), ([], []), ([1, 2], [1, 2]), ([], []), ([3, 4], [3, 4]), ([], []), ([], []), ([], []), ([7, 8], [7, 8]), ([], []), ([9, 10], [9, 10]), ([6, 11], [6, 11]), ([12], [12]), ([], []), ([], []), ([14, 15], [14, 15]), ([], []), ([], []), ([17, 18], [17, 18]), ([19], [19]), ([16, 20], [16, 20]), ([13, 21], [13, 21]), ([], []), ([22, 23], [22, 23]), ([0, 5, 0, 1, 2, 3, 4, 5, 6, 7, 8, 9, 10, 11, 12, 13, 14, 15, 16, 17, 18, 19, 20, 21, 22, 23, 24], [0, 5]), ([25, 24, 0, 1, 2, 3, 4, 5, 6, 7, 8, 9, 10, 11, 12, 13, 14, 15, 16, 17, 18, 19, 20, 21, 22, 23, 24], [24, 25])])
def r4divides.B11 : List Nat := [0, 0, 0, 6, 0, 30, 0, 0, 0, 384, 0, 1920, 4032, 8128, 0, 0, 49152, 0, 0, 393216, 917504, 2080768, 4194240, 0, 16777152, 33554431, 67108863]
theorem r4divides.tab11 : rtab .any (opsOf Try.f88 11) = r4divides.T11 := by kernel_rfl
theorem r4divides.bits11 : waitsOk r4divides.T11.2 r4divides.B11 = true := by kernel_rfl
theorem r4divides.calls (k : Nat) (A0 : Option Addr) (c0 : Nat) (l0 : List Int) (A1 : Option Addr) (c1 : Nat) (l1 : List Int) (a2 : Int) (r : Bool) (w : World) (hr0 : Kd.C (Kd.int .i64) w A0 l0.length l0) (hc0 : l0.length ≤ c0) (hr1 : Kd.C (Kd.int .i64) w A1 l1.length l1) (hc1 : l1.length ≤ c1) (h : r4divides.f k l0 l1 a2 = some r) :
  Calls Try.prog 88 #[.slice A0 l0.length c0, .slice A1 l1.length c1, .int .i64 a2] w fun e w' => e = .returned (.bool r) ∧ Below w.heap.size w w' := by
 have HR0 := Q9a.mk hr0;have HC0 := Q9a.mk hc0;clear hr0 hc0;have HR1 := Q9a.mk hr1;have HC1 := Q9a.mk hc1;clear hr1 hc1;have HB := Q9a.mk (Below.refl w.heap.size w);have H : ((some (([] : List Int) : List Int)).bind fun y106 => (if y106.length + l1.length < 17592186044416 then ((some (y106 ++ l1 : List Int)).bind fun y109 => (if y109.length < 17592186044416 then ((some (y109 ++ [1] : List Int)).bind fun y112 => (r4divides.l0 k l0 a2 (l0.length : Int) y112 (wrap64 ((y112.length : Int) - 1)))) else (none))) else (none))) = some r := h;clear h;obtain ⟨y106, hy106⟩ : ∃ y_ : List Int, y_ = (([] : List Int)) := ⟨_, rfl⟩;replace H : (if y106.length + l1.length < 17592186044416 then ((some (y106 ++ l1 : List Int)).bind fun y109 => (if y109.length < 17592186044416 then ((some (y109 ++ [1] : List Int)).bind fun y112 => (r4divides.l0 k l0 a2 (l0.length : Int) y112 (wrap64 ((y112.length : Int) - 1)))) else (none))) else (none)) = some r := by first | (rw [hy106]; with_reducible exact H) | (have H2_ := (Option.bind_some _ _).symm.trans H; rw [hy106]; with_reducible exact H2_) | (have H2_ := (Option.bind_some _ _).symm.trans H; with_reducible exact H2_) | with_reducible exact H | (rw [hy106]; exact H) | exact H
 have Ny106 := Q9a.mk hy106;clear hy106;by_cases c4 : y106.length + l1.length < 17592186044416
 ·rw [if_pos c4] at H;have LMc4 := Q9a.mk c4;clear c4;obtain ⟨y109, hy109⟩ : ∃ y_ : List Int, y_ = (y106 ++ l1) := ⟨_, rfl⟩;replace H : (if y109.length < 17592186044416 then ((some (y109 ++ [1] : List Int)).bind fun y112 => (r4divides.l0 k l0 a2 (l0.length : Int) y112 (wrap64 ((y112.length : Int) - 1)))) else (none)) = some r := by first | (rw [hy109]; with_reducible exact H) | (have H2_ := (Option.bind_some _ _).symm.trans H; rw [hy109]; with_reducible exact H2_) | (have H2_ := (Option.bind_some _ _).symm.trans H; with_reducible exact H2_) | with_reducible exact H | (rw [hy109]; exact H) | exact H
  have Ny109 := Q9a.mk hy109;clear hy109;by_cases c5 : y109.length < 17592186044416
  ·rw [if_pos c5] at H;have LMc5 := Q9a.mk c5;clear c5;obtain ⟨y112, hy112⟩ : ∃ y_ : List Int, y_ = (y109 ++ [1]) := ⟨_, rfl⟩;replace H : (r4divides.l0 k l0 a2 (l0.length : Int) y112 (wrap64 ((y112.length : Int) - 1))) = some r := by first | (rw [hy112]; with_reducible exact H) | (have H2_ := (Option.bind_some _ _).symm.trans H; rw [hy112]; with_reducible exact H2_) | (have H2_ := (Option.bind_some _ _).symm.trans H; with_reducible exact H2_) | with_reducible exact H | (rw [hy112]; exact H) | exact H
   have Ny112 := Q9a.mk hy112;clear hy112;have H' := Q9a.mk H;clear H;go_enter Try.func88, Try.ntmps88
   go_wp2_with (first | ((with_reducible refine gD (N := 15) rfl ?_); refine Kd.R_lit (Kd.int .i64) _ 3 ?hg (N := 15) ?hd (xs := ([] : List Int)) (inner := []) (ok := fun _ => True) (okp := fun _ => True) ?hr ?hp (fun _ hk => hk) trivial (Below.refl _ _) (Nat.le_refl _) (by simp) ?_; (case hd => rfl); (case hg => rfl); (case hr => first | (go_simp; done) | (go_simp; rfl)); (case hp => exact (Reps.none _ _)); intro v107 w6 ho7 hb hg_ hnew_; clear hg_ hnew_; (first | rw [← Ny106.out] at ho7 | (simp only [Int.reduceToNat] at ho7; rw [← Ny106.out] at ho7)); have n0_ := Q9a.mk (Kd.rL ho7 (bZ (bI HB.out))); have n1_ := Q9a.mk (bP (bI HB.out) hb); clear HB; have HO108 := n0_; have HB := n1_; clear n0_ n1_; clear hb ho7) | ((with_reducible refine gate_builtin (b := .append) (xs := #[.tmp 15, .tmp 16]) rfl ?_); at_builtin; refine Kd.R_append_rows (Kd.int .i64) (w0 := w) w.heap.size rfl (.tmp 15) (.tmp 16) 22 3 (.int .i64 0) 8 rfl Try.underlying22 info3 rfl (by decide) (by omega) v107 y106 l1 _ _ _ (fun _ => True) (fun _ => False) rfl rfl ?aO ?aR (fun _ _ h => h) (fun _ h => h.elim) ?aF ?aB ?aS ?aL ?_; (case aR => repeat (first | exact (Kd.cB HR1.out HB.out) | with_reducible first | refine Kd.cA ?_ _ | refine Kd.cN ?_ _ | refine Kd.cD ?_)); (case aB => exact (bI HB.out)); (case aF => exact (fun _ _ => trivial)); (case aO => exact (rI HO108.out)); (case aS => exact (bZ (bI HB.out))); (case aL => have := LMc4.out; omega); intro v110 w8 ho hb hg hat; rw [← Ny109.out] at ho; have n0_ := Q9a.mk (hb); have n1_ := Q9a.mk (ho); clear HB; clear HO108; have HB := n0_; have HO111 := n1_; clear n0_ n1_; clear ho hb hg hat) | ((with_reducible refine gate_builtin (b := .append) (xs := #[.tmp 18, .tmp 19]) rfl ?_); at_builtin; refine Kd.R_append (Kd.int .i64) (w0 := w) w.heap.size rfl (.tmp 18) (.tmp 19) 22 3 (.int .i64 0) 8 rfl Try.underlying22 info3 rfl (by decide) (by omega) v110 y109 1 [.int .i64 1] (fun _ => True) (fun _ => False) rfl rfl ?aP (fun _ hk => hk.elim) ?aF ?aO ?aB ?aS ?aL ?_; (case aP => exact rfl); (case aB => exact (bI HB.out)); (case aF => exact (fun _ _ => trivial)); (case aO => exact (rI HO111.out)); (case aS => exact (bZ (bI HB.out))); (case aL => have := LMc5.out; omega); intro v113 w9 ho hb hg hat; rw [← Ny112.out] at ho; have n0_ := Q9a.mk (hb); have n1_ := Q9a.mk (ho); clear HB; clear HO111; have HB := n0_; have HO114 := n1_; clear n0_ n1_; clear ho hb hg hat; obtain ⟨Ao10, co10, eo10⟩ := Kd.R_slice HO114.out; subst eo10))
   go_loopg [9] k (fun kq v9 w' => ∃ (x8_1 : List Int) (x9_1 : Int), v9 = .int .i64 x9_1 ∧ Q9a (r4divides.l0 kq l0 a2 (l0.length : Int) x8_1 x9_1 = some r) ∧ Q9a (kq ≤ k) ∧ Q9a (Kd.R (Kd.int .i64) 3 w' w.heap.size (fun _ => True) (.slice Ao10 y112.length co10) x8_1) ∧ Q9a (Below w.heap.size w w'))
   case atStart => exact ⟨(y112), (wrap64 ((y112.length : Int) - 1)), (by first | rfl | (simp; done) | (simp [*]; done)), H', ⟨Nat.le_refl _⟩, ⟨rI HO114.out⟩, ⟨bI HB.out⟩⟩
   case round =>
    clear H';try clear c1
    try clear p2
    try clear c4
    try clear c5
    try clear p6
    try clear c8
    obtain ⟨x8_1, x9_1, rfl, HA, HK1, HO_8, HB⟩ := hrel;have hl8_1 := (Kd.R_reads' HO_8.out).1;rw [hl8_1] at HO_8;(try simp only [hl8_1])
    cases gk with
    | zero => exact absurd HA.out (by simp [r4divides.l0])
    | succ k1 =>
     have H := HA.out;clear HA;simp only [r4divides.l0] at H;by_cases c11 : x9_1 ≥ (l0.length : Int)
     ·rw [if_pos c11] at H;have c11b0 : decide ((l0.length : Int) ≤ x9_1) = true := decide_eq_true c11;(try (have c11b0h := c11b0; rw [hl8_1] at c11b0h))
      clear c11;by_cases c12 : 0 ≤ x9_1
      ·rw [if_pos c12] at H;have c12b0 : decide (0 ≤ x9_1) = true := decide_eq_true c12;clear c12;by_cases c13 : x9_1 < (x8_1.length : Int)
       ·rw [if_pos c13] at H;have c13b0 : decide (x9_1 < (x8_1.length : Int)) = true := decide_eq_true c13;(try (have c13b0h := c13b0; rw [hl8_1] at c13b0h))
        clear c13;have H' := Q9a.mk H;clear H;have p115 : 0 ≤ (x9_1 : Int) := of_decide_eq_true (by first | (with_reducible assumption) | assumption);have q115 : x9_1 < (x8_1.length : Int) := of_decide_eq_true (by first | (with_reducible assumption) | assumption);obtain ⟨ad115, e115, hx115_0⟩ := Kd.at_int (Kd.R_reads' HO_8.out).2.2 x9_1 p115 q115
        cases e115
        obtain ⟨go115, co115, eo115, gb115, gl115, cl115, HGf115⟩ := Kd.R_form HO_8.out (by omega);(injection eo115 with ea_ en_ ec_; injection ea_ with ea_; subst ea_; subst ec_; clear en_)
        have GB115 := Q9a.mk gb115;have GG115 := Q9a.mk HGf115;clear gb115 gl115 HGf115;(first | simp only [add_plain] at hx115_0 | skip)
        replace p115 := eq_true p115;replace q115 := eq_true q115;go_wp2
        go_loopg [11] k1 (fun kq v11 w' => ∃ (x8_2 : List Int) (x11_2 : Int), v11 = .int .i64 x11_2 ∧ Q9a (r4divides.l1 kq l0 a2 (l0.length : Int) x8_2 x9_1 (rd x8_1 x9_1) x11_2 = some r) ∧ Q9a (kq ≤ k1) ∧ Q9a (Kd.R (Kd.int .i64) 3 w' w.heap.size (fun _ => True) (.slice (some ⟨go115, 0, none⟩) x8_1.length co10) x8_2) ∧ Q9a (Below w.heap.size w w'))
        case atStart => exact ⟨(x8_1), (0), (by first | rfl | (simp; done) | (simp [*]; done)), H', ⟨Nat.le_refl _⟩, ⟨by (try simp only [hl8_1]); (with_reducible repeat (first | apply Kd.rA | apply Kd.rN | apply Kd.rD)); exact HO_8.out⟩, ⟨bI HB.out⟩⟩
        case round =>
         clear H';try clear c1
         try clear p1
         try clear q1
         try clear hx1
         try clear p2
         try clear c4
         try clear c5
         try clear p6
         try clear c8
         try clear c11
         try clear c11b0
         try clear p11
         try clear q11
         try clear hx11
         try clear c12
         try clear c12b0
         try clear c13
         try clear c13b0
         try clear hx115_0
         try clear p115
         try clear p2
         try clear p6
         try clear q115
         obtain ⟨x8_2, x11_2, rfl, HA, HK2, HO_8, HB⟩ := hrel;have hl8_2 := (Kd.R_reads' HO_8.out).1;rw [hl8_2] at HO_8;(try simp only [hl8_2])
         cases gk with
         | zero => exact absurd HA.out (by simp [r4divides.l1])
         | succ k2 =>
          have H := HA.out;clear HA;simp only [r4divides.l1] at H;by_cases c14 : x11_2 < (l0.length : Int)
          ·rw [if_pos c14] at H;have c14b0 : decide (x11_2 < (l0.length : Int)) = true := decide_eq_true c14;(try (have c14b0h := c14b0; rw [hl8_1] at c14b0h))
           (try (have c14b0h := c14b0; rw [hl8_2] at c14b0h))
           clear c14;obtain ⟨ji15, hji15⟩ : ∃ j_ : Int, (wrap64 ((wrap64 (x9_1 - (l0.length : Int))) + x11_2)) = j_ := ⟨_, rfl⟩;replace H : (if 0 ≤ (ji15) then (if (ji15) < (x8_2.length : Int) then (if 0 ≤ x11_2 then (if x11_2 < (l0.length : Int) then (if a2 = 0 then (none) else (r4divides.l1 k2 l0 a2 (l0.length : Int) (x8_2.set ((ji15) : Int).toNat (Int.tmod (wrap64 ((rd x8_2 (ji15)) + (wrap64 ((wrap64 (a2 - (rd x8_1 x9_1))) * (rd l0 x11_2))))) a2)) x9_1 (rd x8_1 x9_1) (wrap64 (x11_2 + 1)))) else (none)) else (none)) else (none)) else (none)) = some r := by first | (rw [hji15] at H; exact H) | (simp only [hji15] at H ⊢; exact H)
           have hji15w : (IntKind.i64.wrap ((wrap64 (x9_1 - (l0.length : Int))) + x11_2)) = ji15 := (i64_w _).trans hji15;by_cases c16 : 0 ≤ (ji15)
           ·rw [if_pos c16] at H;have c16b0 : decide (0 ≤ (ji15)) = true := decide_eq_true c16;clear c16;by_cases c17 : (ji15) < (x8_2.length : Int)
            ·rw [if_pos c17] at H;have c17b0 : decide ((ji15) < (x8_2.length : Int)) = true := decide_eq_true c17;(try (have c17b0h := c17b0; rw [hl8_1] at c17b0h))
             (try (have c17b0h := c17b0; rw [hl8_2] at c17b0h))
             clear c17;by_cases c18 : 0 ≤ x11_2
             ·rw [if_pos c18] at H;have c18b0 : decide (0 ≤ x11_2) = true := decide_eq_true c18;clear c18;by_cases c19 : x11_2 < (l0.length : Int)
              ·rw [if_pos c19] at H;have c19b0 : decide (x11_2 < (l0.length : Int)) = true := decide_eq_true c19;(try (have c19b0h := c19b0; rw [hl8_1] at c19b0h))
               (try (have c19b0h := c19b0; rw [hl8_2] at c19b0h))
               clear c19;by_cases c20 : a2 = 0
               ·rw [if_pos c20] at H;exact absurd H (by simp)
               rw [if_neg c20] at H;have c20b0 : (a2 == 0) = false := beq_eq_false_iff_ne.mpr c20;have c20b1 : (a2 != 0) = true := bne_iff_ne.mpr c20;obtain ⟨y118, hy118⟩ : ∃ y_ : List Int, y_ = (x8_2.set ((ji15) : Int).toNat (Int.tmod (wrap64 ((rd x8_2 (ji15)) + (wrap64 ((wrap64 (a2 - (rd x8_1 x9_1))) * (rd l0 x11_2))))) a2)) := ⟨_, rfl⟩;replace H : (r4divides.l1 k2 l0 a2 (l0.length : Int) y118 x9_1 (rd x8_1 x9_1) (wrap64 (x11_2 + 1))) = some r := by first | (rw [hy118]; with_reducible exact H) | (have H2_ := (Option.bind_some _ _).symm.trans H; rw [hy118]; with_reducible exact H2_) | (have H2_ := (Option.bind_some _ _).symm.trans H; with_reducible exact H2_) | with_reducible exact H | (rw [hy118]; exact H) | exact H
               have Ny118 := Q9a.mk hy118;clear hy118;have H' := Q9a.mk H;clear H;try go_wp2
               have n0_ := Q9a.mk (Kd.rD HO_8.out);have n1_ := Q9a.mk (bD HB.out);clear HO_8;clear HB;have HO_8 := n0_;have HB := n1_;clear n0_ n1_;have p116 : 0 ≤ ((ji15) : Int) := of_decide_eq_true (by first | (with_reducible assumption) | assumption);have q116 : (ji15) < (x8_2.length : Int) := of_decide_eq_true (by first | (with_reducible assumption) | assumption);obtain ⟨ad116, e116, hx116_0⟩ := Kd.at_int (Kd.R_reads' HO_8.out).2.2 (ji15) p116 q116;obtain rfl : (⟨go115, 0, none⟩ : Addr) = ad116 := (by injection e116);(first | simp only [add_plain] at hx116_0 | simp only [add_at] at hx116_0 | simp only [Addr.add, Nat.zero_add] at hx116_0 | skip)
               replace p116 := eq_true p116;replace q116 := eq_true q116;have p117 : 0 ≤ (x11_2 : Int) := of_decide_eq_true (by first | (with_reducible assumption) | assumption);have q117 : x11_2 < (l0.length : Int) := of_decide_eq_true (by first | (with_reducible assumption) | assumption);obtain ⟨ad117, e117, hx117_0⟩ := Kd.at_int HR0.out x11_2 p117 q117;have hw117_0 := hx117_0
               cases e117
               replace hx117_0 := (HB.out.cell (World.block_lt_of_cell? w _ hx117_0)).trans hx117_0;replace p117 := eq_true p117;replace q117 := eq_true q117;have p21 : 0 ≤ ((ji15) : Int) := of_decide_eq_true (by first | (with_reducible assumption) | assumption);have q21 : ((ji15) : Int) < ((x8_2.length : Int) : Int) := of_decide_eq_true (by first | (with_reducible assumption) | assumption);obtain ⟨hx21_0, hf21_0⟩ := Kd.R_celln 0 HO_8.out ((ji15) : Int) p21 q21;replace p21 := eq_true p21;replace q21 := eq_true q21;have HP23 := Kd.R_putn HO_8.out ((ji15) : Int) (Int.tmod (wrap64 ((rd x8_2 (ji15)) + (wrap64 ((wrap64 (a2 - (rd x8_1 x9_1))) * (rd l0 x11_2))))) a2);rw [← Ny118.out] at HP23;have HQ23 := Q9a.mk HP23;clear HP23;refine start_ (n := 27) (S := fun w' => w'.cell? ⟨go115, ((ji15)).toNat, none⟩ = some (.int .i64 (rd x8_2 (ji15))) ∧ w'.cell? (ad117.add (x11_2).toNat) = some (.int .i64 (rd l0 x11_2))) (ds := [26]) #[fB,fB,fB,fB,fB,fB,fB,fB,fB,fB,fB,fB,fB,fB,fB,fB,fB,fB,fB,fB,fB,fB,fB,fB,fB,fB,fB] (by kernel_rfl) rfl rfl ⟨hx116_0, ((HB.out.cell (World.block_lt_of_cell? w _ hw117_0)).trans hw117_0)⟩ (fun hHeld => ?_); refine with_tabW r4divides.tab11 r4divides.bits11 (fun HT_ HW_ => ?_);generalize wr.drew = w22 at HO_8 HB HQ23 hf21_0 hx116_0 hx117_0 hx21_0 hHeld ⊢;refine pT 0 38 rfl HT_.out ?_;refine pT 1 39 rfl HT_.out ?_;refine pT 2 40 rfl HT_.out ?_;refine pT 3 41 rfl HT_.out ?_;refine pT 4 42 rfl HT_.out ?_;refine pT 5 43 rfl HT_.out ?_;refine pT 6 44 rfl HT_.out ?_;refine pT 7 45 rfl HT_.out ?_;refine pT 8 46 rfl HT_.out ?_;refine pT 9 47 rfl HT_.out ?_;refine pT 10 48 rfl HT_.out ?_;refine pT 11 49 rfl HT_.out ?_;refine pT 12 50 rfl HT_.out ?_;refine pT 14 52 rfl HT_.out ?_;refine pT 15 53 rfl HT_.out ?_;refine pT 16 54 rfl HT_.out ?_;refine pT 17 55 rfl HT_.out ?_;refine pT 18 56 rfl HT_.out ?_;refine pT 19 57 rfl HT_.out ?_;refine pT 23 61 rfl HT_.out ?_;refine tT 13 51 rfl HT_.out HW_.out hHeld ?_;refine tT 20 58 rfl HT_.out HW_.out hHeld ?_;refine pT 21 59 rfl HT_.out ?_;refine pT 22 60 rfl HT_.out ?_;refine pT 24 62 rfl HT_.out ?_;refine pT 25 63 rfl HT_.out ?_;refine last_ (i := 26) (N := none) #[tB,tB,tB,tB,tB,tB,tB,tB,tB,tB,tB,tB,tB,tB,tB,tB,tB,tB,tB,tB,tB,tB,tB,tB,tB,tB,tB] rfl rfl (one_of HT_.out (by kernel_rfl)) (by decide) (fun K hK => ?_);refine skip_ (w1 := ?_) (by rfl) rfl ?_ ?_;rotate_left
               ·go_simp;rfl
               refine hK.out _ _ ?_;clear hK K;refine done_ (done_of HT_.out (by kernel_rfl)) ?_;try go_wp2
               (try simp only [← hl8_2])
               go_roundg k2
               case measure => have := HK1.out; have := HK2.out; omega
               case rel => exact ⟨(y118), (wrap64 (x11_2 + 1)), (by first | rfl | (simp; done) | (simp [*]; done)), H', ⟨by have := HK1.out; have := HK2.out; omega⟩, ⟨by (try simp only [hl8_1]); (try simp only [hl8_2]); (with_reducible repeat (first | apply Kd.rA | apply Kd.rN | apply Kd.rD)); exact HQ23.out⟩, ⟨bJ HB.out GB115.out⟩⟩
              rw [if_neg c19] at H;exact absurd H (by simp)
             rw [if_neg c18] at H;exact absurd H (by simp)
            rw [if_neg c17] at H;exact absurd H (by simp)
           rw [if_neg c16] at H;exact absurd H (by simp)
          rw [if_neg c14] at H;have c14b0 : decide (x11_2 < (l0.length : Int)) = false := decide_eq_false c14;(try (have c14b0h := c14b0; rw [hl8_1] at c14b0h))
          (try (have c14b0h := c14b0; rw [hl8_2] at c14b0h))
          clear c14;by_cases c24 : 0 ≤ x9_1
          ·rw [if_pos c24] at H;have c24b0 : decide (0 ≤ x9_1) = true := decide_eq_true c24;clear c24;by_cases c25 : x9_1 < (x8_2.length : Int)
           ·rw [if_pos c25] at H;have c25b0 : decide (x9_1 < (x8_2.length : Int)) = true := decide_eq_true c25;(try (have c25b0h := c25b0; rw [hl8_1] at c25b0h))
            (try (have c25b0h := c25b0; rw [hl8_2] at c25b0h))
            clear c25;obtain ⟨y119, hy119⟩ : ∃ y_ : List Int, y_ = (x8_2.set (x9_1 : Int).toNat 0) := ⟨_, rfl⟩;replace H : (r4divides.l0 k2 l0 a2 (l0.length : Int) y119 (wrap64 (x9_1 - 1))) = some r := by first | (rw [hy119]; with_reducible exact H) | (have H2_ := (Option.bind_some _ _).symm.trans H; rw [hy119]; with_reducible exact H2_) | (have H2_ := (Option.bind_some _ _).symm.trans H; with_reducible exact H2_) | with_reducible exact H | (rw [hy119]; exact H) | exact H
            have Ny119 := Q9a.mk hy119;clear hy119;have H' := Q9a.mk H;clear H;have p26 : 0 ≤ (x9_1 : Int) := of_decide_eq_true (by first | (with_reducible assumption) | assumption);have q26 : (x9_1 : Int) < ((x8_2.length : Int) : Int) := of_decide_eq_true (by first | (with_reducible assumption) | assumption);obtain ⟨hx26_0, hf26_0⟩ := Kd.R_celln 0 HO_8.out (x9_1 : Int) p26 q26;replace p26 := eq_true p26;replace q26 := eq_true q26;have HP27 := Kd.R_putg HO_8.out (x9_1 : Int) 0;go_wp2_with (first | ((with_reducible refine gate_store (t := 3) (p := 66) rfl ?_); refine store_event (t := 3) (p := 66) (v := ?vo_w28) (w1 := (wr.setCell ⟨go115, (x9_1 : Int).toNat, none⟩ (.int .i64 0))) ?hg ?ho ?hn ?hr ?_; (case ho => rfl); (case hg => rfl); (case hn => rfl); (case hr => first | (go_simp; done) | (go_simp; rfl)); intro w28 hw; have hg : wr.grownBy w28 (some go115) := (by rw [hw]; exact HP27.2); have hp_ : Kd.R (Kd.int .i64) 3 w28 w.heap.size (fun _ => True) (.slice (some ⟨go115, 0, none⟩) x8_2.length co10) y119 := (by rw [hw, Ny119.out]; exact HP27.1); clear HP27; have n0_ := Q9a.mk (hp_); have n1_ := Q9a.mk ((by rw [hw]; exact bS (HB.out) GB115.out : Below w.heap.size w w28)); clear HO_8; clear HB; have HO_8 := n0_; have HB := n1_; clear n0_ n1_; clear hg hw hp_))
            (try simp only [← hl8_1, ← hl8_2])
            go_roundg k2
            case measure => have := HK1.out; have := HK2.out; omega
            case rel => exact ⟨(y119), (wrap64 (x9_1 - 1)), (by first | rfl | (simp; done) | (simp [*]; done)), H', ⟨by have := HK1.out; have := HK2.out; omega⟩, ⟨by (try simp only [hl8_1]); (try simp only [hl8_2]); (with_reducible repeat (first | apply Kd.rA | apply Kd.rN | apply Kd.rD)); exact HO_8.out⟩, ⟨bI HB.out⟩⟩
           rw [if_neg c25] at H;exact absurd H (by simp)
          rw [if_neg c24] at H;exact absurd H (by simp)
       rw [if_neg c13] at H;exact absurd H (by simp)
      rw [if_neg c12] at H;exact absurd H (by simp)
     rw [if_neg c11] at H;have c11b0 : decide ((l0.length : Int) ≤ x9_1) = false := decide_eq_false c11;(try (have c11b0h := c11b0; rw [hl8_1] at c11b0h))
     clear c11;have H' := Q9a.mk H;clear H;go_wp2
     go_loopg [12] k1 (fun kq v12 w' => ∃ (x12_2 : Int), v12 = .int .i64 x12_2 ∧ Q9a (r4divides.l2 kq x8_1 x12_2 = some r) ∧ Q9a (kq ≤ k1) ∧ Q9a (Kd.R (Kd.int .i64) 3 w' w.heap.size (fun _ => True) (.slice Ao10 x8_1.length co10) x8_1) ∧ Q9a (Below w.heap.size w w'))
     case atStart => exact ⟨(0), (by first | rfl | (simp; done) | (simp [*]; done)), H', ⟨Nat.le_refl _⟩, ⟨by (try simp only [hl8_1]); (with_reducible repeat (first | apply Kd.rA | apply Kd.rN | apply Kd.rD)); exact HO_8.out⟩, ⟨bI HB.out⟩⟩
     case round =>
      clear H';try clear c1
      try clear p1
      try clear q1
      try clear hx1
      try clear c2
      try clear p2
      try clear q2
      try clear hx2
      try clear c4
      try clear c5
      try clear p6
      try clear c8
      try clear c11
      try clear c11b0
      try clear p11
      try clear q11
      try clear hx11
      try clear c12
      try clear c12b0
      try clear c13
      try clear c13b0
      try clear c14
      try clear c14b0
      try clear c16
      try clear c16b0
      try clear c17
      try clear c17b0
      try clear c18
      try clear c18b0
      try clear c19
      try clear c19b0
      try clear c20
      try clear c20b0
      try clear c20b1
      try clear p21
      try clear q21
      try clear hx21
      try clear hf21
      try clear c24
      try clear c24b0
      try clear c25
      try clear c25b0
      try clear p26
      try clear q26
      try clear hx26
      try clear hf26
      try clear hx115_0
      try clear hx116_0
      try clear hx117_0
      try clear hx21_0
      try clear hx26_0
      try clear p1
      try clear p11
      try clear p115
      try clear p116
      try clear p117
      try clear p2
      try clear p21
      try clear p26
      try clear p6
      try clear q1
      try clear q11
      try clear q115
      try clear q116
      try clear q117
      try clear q21
      try clear q26
      obtain ⟨x12_2, rfl, HA, HK2, HO_8, HB⟩ := hrel
      cases gk with
      | zero => exact absurd HA.out (by simp [r4divides.l2])
      | succ k2 =>
       have H := HA.out;clear HA;simp only [r4divides.l2] at H;by_cases c29 : x12_2 < (x8_1.length : Int)
       ·rw [if_pos c29] at H;have c29b0 : decide (x12_2 < (x8_1.length : Int)) = true := decide_eq_true c29;(try (have c29b0h := c29b0; rw [hl8_1] at c29b0h))
        clear c29;by_cases c30 : 0 ≤ x12_2
        ·rw [if_pos c30] at H;have c30b0 : decide (0 ≤ x12_2) = true := decide_eq_true c30;clear c30;by_cases c31 : (rd x8_1 x12_2) = 0
         ·rw [if_pos c31] at H;have c31b0 : ((rd x8_1 x12_2) == 0) = true := beq_iff_eq.mpr c31;have c31b1 : ((rd x8_1 x12_2) != 0) = false := bne_eq_false_iff_eq.mpr c31;clear c31;have H' := Q9a.mk H;clear H;have p120 : 0 ≤ (x12_2 : Int) := of_decide_eq_true (by first | (with_reducible assumption) | assumption);have q120 : x12_2 < (x8_1.length : Int) := of_decide_eq_true (by first | (with_reducible assumption) | assumption);obtain ⟨ad120, e120, hx120_0⟩ := Kd.at_int (Kd.R_reads' HO_8.out).2.2 x12_2 p120 q120
          cases e120
          obtain ⟨go120, co120, eo120, gb120, gl120, cl120, HGf120⟩ := Kd.R_form HO_8.out (by omega);(injection eo120 with ea_ en_ ec_; injection ea_ with ea_; subst ea_; subst ec_; clear en_)
          have GB120 := Q9a.mk gb120;have GG120 := Q9a.mk HGf120;clear gb120 gl120 HGf120;(first | simp only [add_plain] at hx120_0 | skip)
          replace p120 := eq_true p120;replace q120 := eq_true q120;go_wp2
          go_roundg k2
          case measure => have := HK1.out; have := HK2.out; omega
          case rel => exact ⟨(wrap64 (x12_2 + 1)), (by first | rfl | (simp; done) | (simp [*]; done)), H', ⟨by have := HK1.out; have := HK2.out; omega⟩, ⟨by (try simp only [hl8_1]); (with_reducible repeat (first | apply Kd.rA | apply Kd.rN | apply Kd.rD)); exact HO_8.out⟩, ⟨bI HB.out⟩⟩
         rw [if_neg c31] at H;have c31b0 : ((rd x8_1 x12_2) == 0) = false := beq_eq_false_iff_ne.mpr c31;have c31b1 : ((rd x8_1 x12_2) != 0) = true := bne_iff_ne.mpr c31;obtain rfl := Option.some.inj H;have p120 : 0 ≤ (x12_2 : Int) := of_decide_eq_true (by first | (with_reducible assumption) | assumption);have q120 : x12_2 < (x8_1.length : Int) := of_decide_eq_true (by first | (with_reducible assumption) | assumption);obtain ⟨ad120, e120, hx120_0⟩ := Kd.at_int (Kd.R_reads' HO_8.out).2.2 x12_2 p120 q120
         cases e120
         obtain ⟨go120, co120, eo120, gb120, gl120, cl120, HGf120⟩ := Kd.R_form HO_8.out (by omega);(injection eo120 with ea_ en_ ec_; injection ea_ with ea_; subst ea_; subst ec_; clear en_)
         have GB120 := Q9a.mk gb120;have GG120 := Q9a.mk HGf120;clear gb120 gl120 HGf120;(first | simp only [add_plain] at hx120_0 | skip)
         replace p120 := eq_true p120;replace q120 := eq_true q120;go_wp2
         go_ret
         exact ⟨by first | rfl | (simp [*, eN, eS] <;> rfl), bI HB.out⟩
        rw [if_neg c30] at H;exact absurd H (by simp)
       rw [if_neg c29] at H;have c29b0 : decide (x12_2 < (x8_1.length : Int)) = false := decide_eq_false c29;(try (have c29b0h := c29b0; rw [hl8_1] at c29b0h))
       clear c29;obtain rfl := Option.some.inj H;go_wp2
       go_ret
       exact ⟨by first | rfl | (simp [*, eN, eS] <;> rfl), bI HB.out⟩
  rw [if_neg c5] at H;exact absurd H (by simp)
 rw [if_neg c4] at H;exact absurd H (by simp)
mutual
def r4irreducible.l0 : Nat → List Int → Int → Int → Int → Option (Bool)
 | 0, _, _, _, _ => none
 | k + 1, x0, x1, x5, x6 => if (wrap64 (2 * x6)) ≤ (x0.length : Int) then (r4irreducible.l1 k x0 x1 (wrap64 (x5 * x1)) x6 0) else (some true)
def r4irreducible.l1 : Nat → List Int → Int → Int → Int → Int → Option (Bool)
 | 0, _, _, _, _, _ => none
 | k + 1, x0, x1, x5, x6, x7 => if x7 < x5 then ((r4digits.f k x7 x1 x6).bind fun t121 => ((r4divides.f k t121 x0 x1).bind fun t124 => (if t124 = true then (some false) else (r4irreducible.l1 k x0 x1 x5 x6 (wrap64 (x7 + 1)))))) else (r4irreducible.l0 k x0 x1 x5 (wrap64 (x6 + 1)))
end
def r4irreducible.f (k : Nat) (l0 : List Int) (a1 : Int) : Option (Bool) := r4irreducible.l0 k l0 a1 1 1
theorem r4irreducible.calls (k : Nat) (A0 : Option Addr) (c0 : Nat) (l0 : List Int) (a1 : Int) (r : Bool) (w : World) (hr0 : Kd.C (Kd.int .i64) w A0 l0.length l0) (hc0 : l0.length ≤ c0) (h : r4irreducible.f k l0 a1 = some r) :
  Calls Try.prog 61 #[.slice A0 l0.length c0, .int .i64 a1] w fun e w' => e = .returned (.bool r) ∧ Below w.heap.size w w' := by
 have HR0 := Q9a.mk hr0;have HC0 := Q9a.mk hc0;clear hr0 hc0;have HB := Q9a.mk (Below.refl w.heap.size w);have H : (r4irreducible.l0 k l0 a1 1 1) = some r := h;clear h;have H' := Q9a.mk H;clear H;go_enter Try.func61, Try.ntmps61
 go_wp2
 go_loopg [5, 6] k (fun kq v5 v6 w' => ∃ (x5_1 : Int) (x6_1 : Int), v5 = .int .i64 x5_1 ∧ v6 = .int .i64 x6_1 ∧ Q9a (r4irreducible.l0 kq l0 a1 x5_1 x6_1 = some r) ∧ Q9a (kq ≤ k) ∧ Q9a (Below w.heap.size w w'))
 case atStart => exact ⟨(1), (1), (by first | rfl | (simp; done) | (simp [*]; done)), (by first | rfl | (simp; done) | (simp [*]; done)), H', ⟨Nat.le_refl _⟩, ⟨bI HB.out⟩⟩
 case round =>
  clear H';try clear p2
  obtain ⟨x5_1, x6_1, rfl, rfl, HA, HK1, HB⟩ := hrel
  cases gk with
  | zero => exact absurd HA.out (by simp [r4irreducible.l0])
  | succ k1 =>
   have H := HA.out;clear HA;simp only [r4irreducible.l0] at H;by_cases c3 : (wrap64 (2 * x6_1)) ≤ (l0.length : Int)
   ·rw [if_pos c3] at H;have c3b0 : decide ((wrap64 (2 * x6_1)) ≤ (l0.length : Int)) = true := decide_eq_true c3;clear c3;have H' := Q9a.mk H;clear H;go_wp2
    go_loopg [7] k1 (fun kq v7 w' => ∃ (x7_2 : Int), v7 = .int .i64 x7_2 ∧ Q9a (r4irreducible.l1 kq l0 a1 (wrap64 (x5_1 * a1)) x6_1 x7_2 = some r) ∧ Q9a (kq ≤ k1) ∧ Q9a (Below w.heap.size w w'))
    case atStart => exact ⟨(0), (by first | rfl | (simp; done) | (simp [*]; done)), H', ⟨Nat.le_refl _⟩, ⟨bI HB.out⟩⟩
    case round =>
     clear H';try clear p2
     try clear c3
     try clear c3b0
     try clear p2
     obtain ⟨x7_2, rfl, HA, HK2, HB⟩ := hrel
     cases gk with
     | zero => exact absurd HA.out (by simp [r4irreducible.l1])
     | succ k2 =>
      have H := HA.out;clear HA;simp only [r4irreducible.l1] at H;by_cases c4 : x7_2 < (wrap64 (x5_1 * a1))
      ·rw [if_pos c4] at H;have c4b0 : decide (x7_2 < (wrap64 (x5_1 * a1))) = true := decide_eq_true c4;clear c4;replace H := Option.bind_eq_some_iff.mp H;obtain ⟨t121, A50, H⟩ := H;replace H : ((r4divides.f k2 t121 l0 a1).bind fun t124 => (if t124 = true then (some false) else (r4irreducible.l1 k2 l0 a1 (wrap64 (x5_1 * a1)) x6_1 (wrap64 (x7_2 + 1))))) = some r := H;have A5 := Q9a.mk A50;clear A50;replace H := Option.bind_eq_some_iff.mp H;obtain ⟨t124, A60, H⟩ := H;replace H : (if t124 = true then (some false) else (r4irreducible.l1 k2 l0 a1 (wrap64 (x5_1 * a1)) x6_1 (wrap64 (x7_2 + 1)))) = some r := H;have A6 := Q9a.mk A60;clear A60;by_cases c7 : t124 = true
       ·subst c7;have H1 : (some false) = some r := by rw [if_pos rfl] at H; exact H
        clear H;have H := H1;clear H1;obtain rfl := Option.some.inj H;go_wp2_with (first | ((with_reducible refine gC (f := 72) rfl ?_); refine gL (some 26) rfl rfl Try.func72 (by kernel_rfl) rfl #[.int .i64 x7_2, .int .i64 a1, .int .i64 x6_1] rfl (by (try simp only [sm1, sm2, sm3]); first | done | rfl | (simp only [sm4, sm5]; rfl)) ?_; (with_reducible refine (r4digits.calls k2 x7_2 a1 x6_1 t121 _ A5.out).mono ?_); rintro e w8 ⟨v122, rfl, ho0, hb⟩; refine ⟨_, rfl, ?_⟩; have n0_ := Q9a.mk (Kd.rL ho0 (bZ (bI HB.out))); have n1_ := Q9a.mk (bP (bI HB.out) hb); clear HB; have HO123 := n0_; have HB := n1_; clear n0_ n1_; (try clear ho0); obtain ⟨Ao9, co9, eo9⟩ := Kd.R_slice HO123.out; subst eo9) | ((with_reducible refine gC (f := 88) rfl ?_); refine gL (some 29) rfl rfl Try.func88 (by kernel_rfl) rfl #[.slice Ao9 t121.length co9, .slice A0 l0.length c0, .int .i64 a1] rfl (by (try simp only [sm1, sm2, sm3]); first | done | rfl | (simp only [sm4, sm5]; rfl)) ?_; (with_reducible refine (r4divides.calls k2 _ _ t121 _ _ l0 a1 true _ ?side1 ?side2 ?side3 ?side4 A6.out).mono ?_); (case side1 => repeat (first | exact (Kd.R_reads' HO123.out).2.2 | with_reducible first | refine Kd.cA ?_ _ | refine Kd.cN ?_ _ | refine Kd.cD ?_)); (case side2 => exact (Kd.R_reads' HO123.out).2.1); (case side3 => exact cI HR0.out HB.out); (case side4 => exact HC0.out); rintro e w10 ⟨rfl, hb⟩; refine ⟨_, rfl, ?_⟩; have n0_ := Q9a.mk (Kd.R_below (rI HO123.out) hb); have n1_ := Q9a.mk (bP (bI HB.out) hb); clear HO123; clear HB; have HO123 := n0_; have HB := n1_; clear n0_ n1_; (try clear hb); (try clear hb2); (try clear hk); (try clear hi)))
        go_ret
        exact ⟨by first | rfl | (simp [*, eN, eS] <;> rfl), bI HB.out⟩
       replace c7 := Bool.eq_false_iff.mpr c7;subst c7;have H1 : (r4irreducible.l1 k2 l0 a1 (wrap64 (x5_1 * a1)) x6_1 (wrap64 (x7_2 + 1))) = some r := by rw [if_neg (show ¬ (false = true) by decide)] at H; exact H
       clear H;have H := H1;clear H1;have H' := Q9a.mk H;clear H;go_wp2_with (first | ((with_reducible refine gC (f := 72) rfl ?_); refine gL (some 26) rfl rfl Try.func72 (by kernel_rfl) rfl #[.int .i64 x7_2, .int .i64 a1, .int .i64 x6_1] rfl (by (try simp only [sm1, sm2, sm3]); first | done | rfl | (simp only [sm4, sm5]; rfl)) ?_; (with_reducible refine (r4digits.calls k2 x7_2 a1 x6_1 t121 _ A5.out).mono ?_); rintro e w11 ⟨v122, rfl, ho0, hb⟩; refine ⟨_, rfl, ?_⟩; have n0_ := Q9a.mk (Kd.rL ho0 (bZ (bI HB.out))); have n1_ := Q9a.mk (bP (bI HB.out) hb); clear HB; have HO123 := n0_; have HB := n1_; clear n0_ n1_; (try clear ho0); obtain ⟨Ao12, co12, eo12⟩ := Kd.R_slice HO123.out; subst eo12) | ((with_reducible refine gC (f := 88) rfl ?_); refine gL (some 29) rfl rfl Try.func88 (by kernel_rfl) rfl #[.slice Ao12 t121.length co12, .slice A0 l0.length c0, .int .i64 a1] rfl (by (try simp only [sm1, sm2, sm3]); first | done | rfl | (simp only [sm4, sm5]; rfl)) ?_; (with_reducible refine (r4divides.calls k2 _ _ t121 _ _ l0 a1 false _ ?side1 ?side2 ?side3 ?side4 A6.out).mono ?_); (case side1 => repeat (first | exact (Kd.R_reads' HO123.out).2.2 | with_reducible first | refine Kd.cA ?_ _ | refine Kd.cN ?_ _ | refine Kd.cD ?_)); (case side2 => exact (Kd.R_reads' HO123.out).2.1); (case side3 => exact cI HR0.out HB.out); (case side4 => exact HC0.out); rintro e w13 ⟨rfl, hb⟩; refine ⟨_, rfl, ?_⟩; have n0_ := Q9a.mk (Kd.R_below (rI HO123.out) hb); have n1_ := Q9a.mk (bP (bI HB.out) hb); clear HO123; clear HB; have HO123 := n0_; have HB := n1_; clear n0_ n1_; (try clear hb); (try clear hb2); (try clear hk); (try clear hi)))
       go_roundg k2
       case measure => have := HK1.out; have := HK2.out; omega
       case rel => exact ⟨(wrap64 (x7_2 + 1)), (by first | rfl | (simp; done) | (simp [*]; done)), H', ⟨by have := HK1.out; have := HK2.out; omega⟩, ⟨bI HB.out⟩⟩
      rw [if_neg c4] at H;have c4b0 : decide (x7_2 < (wrap64 (x5_1 * a1))) = false := decide_eq_false c4;clear c4;have H' := Q9a.mk H;clear H;go_wp2
      go_roundg k2
      case measure => have := HK1.out; have := HK2.out; omega
      case rel => exact ⟨((wrap64 (x5_1 * a1))), (wrap64 (x6_1 + 1)), (by first | rfl | (simp; done) | (simp [*]; done)), (by first | rfl | (simp; done) | (simp [*]; done)), H', ⟨by have := HK1.out; have := HK2.out; omega⟩, ⟨bI HB.out⟩⟩
   rw [if_neg c3] at H;have c3b0 : decide ((wrap64 (2 * x6_1)) ≤ (l0.length : Int)) = false := decide_eq_false c3;clear c3;obtain rfl := Option.some.inj H;go_wp2
   go_ret
   exact ⟨by first | rfl | (simp [*, eN, eS] <;> rfl), bI HB.out⟩
end
end Go.Proofs.Ytlbddjojhcgpiaa.P
end
-- Pa3
section
namespace Go.Proofs.Ytlbddjojhcgpiaa.P
noncomputable section
open Go.RowKit Go.Proofs.Ytlbddjojhcgpiaa.Hand Go.Proofs.YtlbddjojhcgpiaaW.PrintWords Go.Proofs.YtlbddjojhcgpiaaW.PrintLast Go.Proofs.YtlbddjojhcgpiaaW.PrintMore
set_option linter.unusedVariables false
set_option linter.unusedSimpArgs false
mutual
def r4Check.j0 : Nat → Bool → Int → Int → List Int → Option (Int)
 | 0, _, _, _, _ => none
 | k + 1, x12, x126000, x126001, x126002 => if x12 = true then (some 1) else (if x126001 = 1 then (if (x126002.length : Int) = 0 then (some 0) else (some 1)) else (if (x126002.length : Int) = x126001 then (r4Check.l0 k 0 x126000 x126001 x126002) else (some 1)))
def r4Check.l0 : Nat → Int → Int → Int → List Int → Option (Int)
 | 0, _, _, _, _ => none
 | k + 1, x3, x126000, x126001, x126002 => if x3 < x126001 then (if 0 ≤ x3 then (if x3 < (x126002.length : Int) then (if (rd x126002 x3) < 0 then (some 1) else (if (rd x126002 x3) ≥ x126000 then (some 1) else (r4Check.l0 k (wrap64 (x3 + 1)) x126000 x126001 x126002))) else (none)) else (none)) else ((r4irreducible.f k x126002 x126000).bind fun t130 => (if t130 = true then (some 0) else (some 1)))
end
def r4Check.f (k : Nat) (a0_0 : Int) (a0_1 : Int) (l0_2 : List Int) : Option (Int) := (r4Order.f k a0_0 a0_1 l0_2).bind fun t126 => (if t126 = 0 then (r4Check.j0 k true a0_0 a0_1 l0_2) else ((r4prime.f k a0_0).bind fun t127 => (r4Check.j0 k (!t127) a0_0 a0_1 l0_2)))
theorem r4Check.calls (k : Nat) (a0_0 : Int) (a0_1 : Int) (A0_2 : Option Addr) (c0_2 : Nat) (l0_2 : List Int) (r : Int) (w : World) (hr0_2 : Kd.C (Kd.int .i64) w A0_2 l0_2.length l0_2) (hc0_2 : l0_2.length ≤ c0_2) (h : r4Check.f k a0_0 a0_1 l0_2 = some r) :
  Calls Try.prog 27 #[.agg #[.int .i64 a0_0, .int .i64 a0_1, .slice A0_2 l0_2.length c0_2]] w fun e w' => e = .returned (.int .i64 r) ∧ Below w.heap.size w w' := by
 have hu24 := Try.underlying24;have HR0_2 := Q9a.mk hr0_2;have HC0_2 := Q9a.mk hc0_2;clear hr0_2 hc0_2;have HB := Q9a.mk (Below.refl w.heap.size w);have H : ((r4Order.f k a0_0 a0_1 l0_2).bind fun t126 => (if t126 = 0 then (r4Check.j0 k true a0_0 a0_1 l0_2) else ((r4prime.f k a0_0).bind fun t127 => (r4Check.j0 k (!t127) a0_0 a0_1 l0_2)))) = some r := h;clear h;have HC2 := Q9a.mk H;clear H;go_enter Try.func27, Try.ntmps27
 go_upto_region 1 with (first | ((with_reducible refine gD (N := 1) rfl ?_); refine bE ?hg (N := 1) ?hd (cs := #[.int .i64 a0_0, .int .i64 a0_1, .slice A0_2 l0_2.length c0_2]) (t := 24) ?hr ?_; (case hd => rfl); (case hg => rfl); (case hr => first | (go_simp; done) | (go_simp; rfl)); intro gb125 hg w3 hbox hb; have n0_ := Q9a.mk (bP (bI HB.out) hb); have n1_ := Q9a.mk (hbox); have n2_ := Q9a.mk ((by rw [hg]; exact (bZ (bI HB.out)) : w.heap.size ≤ gb125)); have n3_ := n2_; clear HB; have HB := n0_; have BK125 := n1_; have GW125 := n2_; have GE125 := n3_; clear n0_ n1_ n2_ n3_; clear hb hbox hg))
 repeat (go_quiet (first | ((with_reducible refine gD (N := 1) rfl ?_); refine bE ?hg (N := 1) ?hd (cs := #[.int .i64 a0_0, .int .i64 a0_1, .slice A0_2 l0_2.length c0_2]) (t := 24) ?hr ?_; (case hd => rfl); (case hg => rfl); (case hr => first | (go_simp; done) | (go_simp; rfl)); intro gb125 hg w3 hbox hb; have n0_ := Q9a.mk (bP (bI HB.out) hb); have n1_ := Q9a.mk (hbox); have n2_ := Q9a.mk ((by rw [hg]; exact (bZ (bI HB.out)) : w.heap.size ≤ gb125)); have n3_ := n2_; clear HB; have HB := n0_; have BK125 := n1_; have GW125 := n2_; have GE125 := n3_; clear n0_ n1_ n2_ n3_; clear hb hbox hg)); go_upto_region 1 with (first | ((with_reducible refine gD (N := 1) rfl ?_); refine bE ?hg (N := 1) ?hd (cs := #[.int .i64 a0_0, .int .i64 a0_1, .slice A0_2 l0_2.length c0_2]) (t := 24) ?hr ?_; (case hd => rfl); (case hg => rfl); (case hr => first | (go_simp; done) | (go_simp; rfl)); intro gb125 hg w3 hbox hb; have n0_ := Q9a.mk (bP (bI HB.out) hb); have n1_ := Q9a.mk (hbox); have n2_ := Q9a.mk ((by rw [hg]; exact (bZ (bI HB.out)) : w.heap.size ≤ gb125)); have n3_ := n2_; clear HB; have HB := n0_; have BK125 := n1_; have GW125 := n2_; have GE125 := n3_; clear n0_ n1_ n2_ n3_; clear hb hbox hg)))
 (try simp only [Act.put, sz1, sz2, sz3])
 go_cut [12] (fun v12 wc => ∃ (kq : Nat) (x12_1 : Bool), v12 = .bool x12_1 ∧ Q9a (r4Check.j0 kq x12_1 a0_0 a0_1 l0_2 = some r) ∧ Q9a (kq ≤ k) ∧ Q9a (wc.heap[gb125]? = some (.cells #[.int .i64 a0_0, .int .i64 a0_1, (.slice A0_2 l0_2.length c0_2)] 24 (0, 0))) ∧ Q9a (Below w.heap.size w wc))
 case first =>
  have H := HC2.out;clear HC2;replace H := Option.bind_eq_some_iff.mp H;obtain ⟨t126, A40, H⟩ := H;replace H : (if t126 = 0 then (r4Check.j0 k true a0_0 a0_1 l0_2) else ((r4prime.f k a0_0).bind fun t127 => (r4Check.j0 k (!t127) a0_0 a0_1 l0_2))) = some r := H;have A4 := Q9a.mk A40;clear A40;by_cases c5 : t126 = 0
  ·rw [if_pos c5] at H;have c5b0 : (t126 == 0) = true := beq_iff_eq.mpr c5;have c5b1 : (t126 != 0) = false := bne_eq_false_iff_eq.mpr c5;clear c5;(first | rw [c5b0] | (simp only [i64_w, i32_w]; rw [c5b0]) | skip)
   have H' := Q9a.mk H;clear H;have hcz6_0 : w3.cell? ⟨gb125, 0, none⟩ = some (.int .i64 a0_0) := (kC BK125.out 0).trans rfl;have hcz6_1 : w3.cell? ⟨gb125, 1, none⟩ = some (.int .i64 a0_1) := (kC BK125.out 1).trans rfl;have hcz6_2 : w3.cell? ⟨gb125, 2, none⟩ = some (.slice A0_2 l0_2.length c0_2) := (kC BK125.out 2).trans rfl;have hfz6_0 := kF BK125.out 0;have hfz6_1 := kF BK125.out 1;have hfz6_2 := kF BK125.out 2;go_wp2_with (first | (go_at_call 29; (with_reducible refine (r4Order.calls k a0_0 a0_1 _ _ l0_2 t126 _ ?side1 ?side2 A4.out).mono ?_); (case side1 => exact cI HR0_2.out HB.out); (case side2 => exact HC0_2.out); rintro e w7 ⟨rfl, hb⟩; have n0_ := Q9a.mk (kB (g := gb125) (o := .cells #[.int .i64 a0_0, .int .i64 a0_1, .slice A0_2 l0_2.length c0_2] 24 (0, 0)) (kI BK125.out) hb); have n1_ := Q9a.mk (bP (bJ HB.out GE125.out) hb); clear BK125; clear HB; have BK125 := n0_; have HB := n1_; clear n0_ n1_; (try clear hb); (try clear hb2); (try clear hk); (try clear hi)))
   repeat (go_quiet (first | (go_at_call 29; (with_reducible refine (r4Order.calls k a0_0 a0_1 _ _ l0_2 t126 _ ?side1 ?side2 A4.out).mono ?_); (case side1 => exact cI HR0_2.out HB.out); (case side2 => exact HC0_2.out); rintro e w7 ⟨rfl, hb⟩; have n0_ := Q9a.mk (kB (g := gb125) (o := .cells #[.int .i64 a0_0, .int .i64 a0_1, .slice A0_2 l0_2.length c0_2] 24 (0, 0)) (kI BK125.out) hb); have n1_ := Q9a.mk (bP (bJ HB.out GE125.out) hb); clear BK125; clear HB; have BK125 := n0_; have HB := n1_; clear n0_ n1_; (try clear hb); (try clear hb2); (try clear hk); (try clear hi))); try go_wp2_with (first | (go_at_call 29; (with_reducible refine (r4Order.calls k a0_0 a0_1 _ _ l0_2 t126 _ ?side1 ?side2 A4.out).mono ?_); (case side1 => exact cI HR0_2.out HB.out); (case side2 => exact HC0_2.out); rintro e w7 ⟨rfl, hb⟩; have n0_ := Q9a.mk (kB (g := gb125) (o := .cells #[.int .i64 a0_0, .int .i64 a0_1, .slice A0_2 l0_2.length c0_2] 24 (0, 0)) (kI BK125.out) hb); have n1_ := Q9a.mk (bP (bJ HB.out GE125.out) hb); clear BK125; clear HB; have BK125 := n0_; have HB := n1_; clear n0_ n1_; (try clear hb); (try clear hb2); (try clear hk); (try clear hi))))
   go_meet
   case rel => exact ⟨_, (true), (by first | rfl | (simp; done) | (simp [*]; done)), H', ⟨by first | omega | exact Nat.le_refl _⟩, ⟨kI BK125.out⟩, ⟨bJ HB.out GE125.out⟩⟩
  rw [if_neg c5] at H;have c5b0 : (t126 == 0) = false := beq_eq_false_iff_ne.mpr c5;have c5b1 : (t126 != 0) = true := bne_iff_ne.mpr c5;(first | rw [c5b0] | (simp only [i64_w, i32_w]; rw [c5b0]) | skip)
  replace H := Option.bind_eq_some_iff.mp H;obtain ⟨t127, A80, H⟩ := H;replace H : (r4Check.j0 k (!t127) a0_0 a0_1 l0_2) = some r := H;have A8 := Q9a.mk A80;clear A80;have H' := Q9a.mk H;clear H;have hcz9_0 : w3.cell? ⟨gb125, 0, none⟩ = some (.int .i64 a0_0) := (kC BK125.out 0).trans rfl;have hcz9_1 : w3.cell? ⟨gb125, 1, none⟩ = some (.int .i64 a0_1) := (kC BK125.out 1).trans rfl;have hcz9_2 : w3.cell? ⟨gb125, 2, none⟩ = some (.slice A0_2 l0_2.length c0_2) := (kC BK125.out 2).trans rfl;have hfz9_0 := kF BK125.out 0;have hfz9_1 := kF BK125.out 1;have hfz9_2 := kF BK125.out 2;go_wp2_with (first | (go_at_call 29; (with_reducible refine (r4Order.calls k a0_0 a0_1 _ _ l0_2 t126 _ ?side1 ?side2 A4.out).mono ?_); (case side1 => exact cI HR0_2.out HB.out); (case side2 => exact HC0_2.out); rintro e w10 ⟨rfl, hb⟩; have n0_ := Q9a.mk (kB (g := gb125) (o := .cells #[.int .i64 a0_0, .int .i64 a0_1, .slice A0_2 l0_2.length c0_2] 24 (0, 0)) (kI BK125.out) hb); have n1_ := Q9a.mk (bP (bJ HB.out GE125.out) hb); clear BK125; clear HB; have BK125 := n0_; have HB := n1_; clear n0_ n1_; have hcz11_0 : w10.cell? ⟨gb125, 0, none⟩ = some (.int .i64 a0_0) := (kC BK125.out 0).trans rfl; have hcz11_1 : w10.cell? ⟨gb125, 1, none⟩ = some (.int .i64 a0_1) := (kC BK125.out 1).trans rfl; have hcz11_2 : w10.cell? ⟨gb125, 2, none⟩ = some (.slice A0_2 l0_2.length c0_2) := (kC BK125.out 2).trans rfl; have hfz11_0 := kF BK125.out 0; have hfz11_1 := kF BK125.out 1; have hfz11_2 := kF BK125.out 2) | (go_at_call 60; (with_reducible refine (r4prime.calls k a0_0 t127 _ A8.out).mono ?_); rintro e w' ⟨rfl, ⟨nd, rfl⟩⟩; (try first | exact ⟨rfl, _, World.drewN_drewN _ _ _⟩ | exact ⟨rfl, _, Eq.trans (World.drewN_drewN _ _ _) (congrArg (World.drewN _) (Nat.add_assoc _ _ _))⟩)))
  repeat (go_quiet (first | (go_at_call 29; (with_reducible refine (r4Order.calls k a0_0 a0_1 _ _ l0_2 t126 _ ?side1 ?side2 A4.out).mono ?_); (case side1 => exact cI HR0_2.out HB.out); (case side2 => exact HC0_2.out); rintro e w10 ⟨rfl, hb⟩; have n0_ := Q9a.mk (kB (g := gb125) (o := .cells #[.int .i64 a0_0, .int .i64 a0_1, .slice A0_2 l0_2.length c0_2] 24 (0, 0)) (kI BK125.out) hb); have n1_ := Q9a.mk (bP (bJ HB.out GE125.out) hb); clear BK125; clear HB; have BK125 := n0_; have HB := n1_; clear n0_ n1_; have hcz11_0 : w10.cell? ⟨gb125, 0, none⟩ = some (.int .i64 a0_0) := (kC BK125.out 0).trans rfl; have hcz11_1 : w10.cell? ⟨gb125, 1, none⟩ = some (.int .i64 a0_1) := (kC BK125.out 1).trans rfl; have hcz11_2 : w10.cell? ⟨gb125, 2, none⟩ = some (.slice A0_2 l0_2.length c0_2) := (kC BK125.out 2).trans rfl; have hfz11_0 := kF BK125.out 0; have hfz11_1 := kF BK125.out 1; have hfz11_2 := kF BK125.out 2) | (go_at_call 60; (with_reducible refine (r4prime.calls k a0_0 t127 _ A8.out).mono ?_); rintro e w' ⟨rfl, ⟨nd, rfl⟩⟩; (try first | exact ⟨rfl, _, World.drewN_drewN _ _ _⟩ | exact ⟨rfl, _, Eq.trans (World.drewN_drewN _ _ _) (congrArg (World.drewN _) (Nat.add_assoc _ _ _))⟩))); try go_wp2_with (first | (go_at_call 29; (with_reducible refine (r4Order.calls k a0_0 a0_1 _ _ l0_2 t126 _ ?side1 ?side2 A4.out).mono ?_); (case side1 => exact cI HR0_2.out HB.out); (case side2 => exact HC0_2.out); rintro e w10 ⟨rfl, hb⟩; have n0_ := Q9a.mk (kB (g := gb125) (o := .cells #[.int .i64 a0_0, .int .i64 a0_1, .slice A0_2 l0_2.length c0_2] 24 (0, 0)) (kI BK125.out) hb); have n1_ := Q9a.mk (bP (bJ HB.out GE125.out) hb); clear BK125; clear HB; have BK125 := n0_; have HB := n1_; clear n0_ n1_; have hcz11_0 : w10.cell? ⟨gb125, 0, none⟩ = some (.int .i64 a0_0) := (kC BK125.out 0).trans rfl; have hcz11_1 : w10.cell? ⟨gb125, 1, none⟩ = some (.int .i64 a0_1) := (kC BK125.out 1).trans rfl; have hcz11_2 : w10.cell? ⟨gb125, 2, none⟩ = some (.slice A0_2 l0_2.length c0_2) := (kC BK125.out 2).trans rfl; have hfz11_0 := kF BK125.out 0; have hfz11_1 := kF BK125.out 1; have hfz11_2 := kF BK125.out 2) | (go_at_call 60; (with_reducible refine (r4prime.calls k a0_0 t127 _ A8.out).mono ?_); rintro e w' ⟨rfl, ⟨nd, rfl⟩⟩; (try first | exact ⟨rfl, _, World.drewN_drewN _ _ _⟩ | exact ⟨rfl, _, Eq.trans (World.drewN_drewN _ _ _) (congrArg (World.drewN _) (Nat.add_assoc _ _ _))⟩))))
  go_meet
  case rel => exact ⟨_, (!t127), (by first | rfl | (simp; done) | (simp [*]; done)), H', ⟨by first | omega | exact Nat.le_refl _⟩, ⟨kI BK125.out⟩, ⟨bJ HB.out GE125.out⟩⟩
 case rest =>
  clear HC2;try clear c2
  try clear p2
  try clear c5
  try clear c5b0
  try clear c5b1
  try clear hcz11_0
  try clear hcz11_1
  try clear hcz11_2
  try clear hcz6_0
  try clear hcz6_1
  try clear hcz6_2
  try clear hcz9_0
  try clear hcz9_1
  try clear hcz9_2
  try clear hfz11_0
  try clear hfz11_1
  try clear hfz11_2
  try clear hfz6_0
  try clear hfz6_1
  try clear hfz6_2
  try clear hfz9_0
  try clear hfz9_1
  try clear hfz9_2
  obtain ⟨kq, x12_1, rfl, HA, HJ1, BK125, HB⟩ := hcut
  cases kq with
  | zero => exact absurd HA.out (by simp [r4Check.j0])
  | succ kj1 =>
   have H := HA.out;clear HA;simp only [r4Check.j0] at H;by_cases c12 : x12_1 = true
   ·subst c12;have H1 : (some 1) = some r := by rw [if_pos rfl] at H; exact H
    clear H;have H := H1;clear H1;obtain rfl := Option.some.inj H;go_wp2
    repeat (go_quiet (fail); try go_wp2)
    go_ret
    exact ⟨by first | rfl | (simp [*, eN, eS] <;> rfl), bJ HB.out GE125.out⟩
   replace c12 := Bool.eq_false_iff.mpr c12;subst c12;have H1 : (if a0_1 = 1 then (if (l0_2.length : Int) = 0 then (some 0) else (some 1)) else (if (l0_2.length : Int) = a0_1 then (r4Check.l0 kj1 0 a0_0 a0_1 l0_2) else (some 1))) = some r := by rw [if_neg (show ¬ (false = true) by decide)] at H; exact H
   clear H;have H := H1;clear H1;by_cases c13 : a0_1 = 1
   ·rw [if_pos c13] at H;have c13b0 : (a0_1 == 1) = true := beq_iff_eq.mpr c13;have c13b1 : (a0_1 != 1) = false := bne_eq_false_iff_eq.mpr c13;clear c13;by_cases c14 : (l0_2.length : Int) = 0
    ·rw [if_pos c14] at H;have c14b0 : ((l0_2.length : Int) == 0) = true := beq_iff_eq.mpr c14;have c14b1 : ((l0_2.length : Int) != 0) = false := bne_eq_false_iff_eq.mpr c14;clear c14;obtain rfl := Option.some.inj H;have hcz15_0 : wc.cell? ⟨gb125, 0, none⟩ = some (.int .i64 a0_0) := (kC BK125.out 0).trans rfl;have hcz15_1 : wc.cell? ⟨gb125, 1, none⟩ = some (.int .i64 a0_1) := (kC BK125.out 1).trans rfl;have hcz15_2 : wc.cell? ⟨gb125, 2, none⟩ = some (.slice A0_2 l0_2.length c0_2) := (kC BK125.out 2).trans rfl;have hfz15_0 := kF BK125.out 0;have hfz15_1 := kF BK125.out 1;have hfz15_2 := kF BK125.out 2;go_wp2
     repeat (go_quiet (fail); try go_wp2)
     go_ret
     exact ⟨by first | rfl | (simp [*, eN, eS] <;> rfl), bJ HB.out GE125.out⟩
    rw [if_neg c14] at H;have c14b0 : ((l0_2.length : Int) == 0) = false := beq_eq_false_iff_ne.mpr c14;have c14b1 : ((l0_2.length : Int) != 0) = true := bne_iff_ne.mpr c14;have c14b2 : ¬ (l0_2 = []) := fun h_ => c14 (by rw [h_]; rfl)
    obtain rfl := Option.some.inj H;have hcz16_0 : wc.cell? ⟨gb125, 0, none⟩ = some (.int .i64 a0_0) := (kC BK125.out 0).trans rfl;have hcz16_1 : wc.cell? ⟨gb125, 1, none⟩ = some (.int .i64 a0_1) := (kC BK125.out 1).trans rfl;have hcz16_2 : wc.cell? ⟨gb125, 2, none⟩ = some (.slice A0_2 l0_2.length c0_2) := (kC BK125.out 2).trans rfl;have hfz16_0 := kF BK125.out 0;have hfz16_1 := kF BK125.out 1;have hfz16_2 := kF BK125.out 2;go_wp2
    repeat (go_quiet (fail); try go_wp2)
    go_ret
    exact ⟨by first | rfl | (simp [*, eN, eS] <;> rfl), bJ HB.out GE125.out⟩
   rw [if_neg c13] at H;have c13b0 : (a0_1 == 1) = false := beq_eq_false_iff_ne.mpr c13;have c13b1 : (a0_1 != 1) = true := bne_iff_ne.mpr c13;by_cases c17 : (l0_2.length : Int) = a0_1
   ·rw [if_pos c17] at H;have c17b0 : ((l0_2.length : Int) == a0_1) = true := beq_iff_eq.mpr c17;have c17b1 : ((l0_2.length : Int) != a0_1) = false := bne_eq_false_iff_eq.mpr c17;clear c17;have H' := Q9a.mk H;clear H;have hcz18_0 : wc.cell? ⟨gb125, 0, none⟩ = some (.int .i64 a0_0) := (kC BK125.out 0).trans rfl;have hcz18_1 : wc.cell? ⟨gb125, 1, none⟩ = some (.int .i64 a0_1) := (kC BK125.out 1).trans rfl;have hcz18_2 : wc.cell? ⟨gb125, 2, none⟩ = some (.slice A0_2 l0_2.length c0_2) := (kC BK125.out 2).trans rfl;have hfz18_0 := kF BK125.out 0;have hfz18_1 := kF BK125.out 1;have hfz18_2 := kF BK125.out 2;go_wp2
    repeat (go_quiet (fail); try go_wp2)
    go_loopg [3] kj1 (fun kq v3 w' => ∃ (x3_2 : Int), v3 = .int .i64 x3_2 ∧ Q9a (r4Check.l0 kq x3_2 a0_0 a0_1 l0_2 = some r) ∧ Q9a (kq ≤ kj1) ∧ Q9a (w'.heap[gb125]? = some (.cells #[.int .i64 a0_0, .int .i64 a0_1, (.slice A0_2 l0_2.length c0_2)] 24 (0, 0))) ∧ Q9a (Below w.heap.size w w'))
    case atStart => exact ⟨(0), (by first | rfl | (simp; done) | (simp [*]; done)), H', ⟨Nat.le_refl _⟩, ⟨kI BK125.out⟩, ⟨bJ HB.out GE125.out⟩⟩
    case round =>
     clear H';try clear c1
     try clear c2
     try clear p2
     try clear c5
     try clear c5b0
     try clear c5b1
     try clear c12
     try clear c13
     try clear c13b0
     try clear c13b1
     try clear c14
     try clear c14b0
     try clear c14b1
     try clear c14b2
     try clear c17
     try clear c17b0
     try clear c17b1
     try clear hcz11_0
     try clear hcz11_1
     try clear hcz11_2
     try clear hcz15_0
     try clear hcz15_1
     try clear hcz15_2
     try clear hcz16_0
     try clear hcz16_1
     try clear hcz16_2
     try clear hcz18_0
     try clear hcz18_1
     try clear hcz18_2
     try clear hcz6_0
     try clear hcz6_1
     try clear hcz6_2
     try clear hcz9_0
     try clear hcz9_1
     try clear hcz9_2
     try clear hfz11_0
     try clear hfz11_1
     try clear hfz11_2
     try clear hfz15_0
     try clear hfz15_1
     try clear hfz15_2
     try clear hfz16_0
     try clear hfz16_1
     try clear hfz16_2
     try clear hfz18_0
     try clear hfz18_1
     try clear hfz18_2
     try clear hfz6_0
     try clear hfz6_1
     try clear hfz6_2
     try clear hfz9_0
     try clear hfz9_1
     try clear hfz9_2
     try clear p2
     obtain ⟨x3_2, rfl, HA, HK2, BK125, HB⟩ := hrel
     cases gk with
     | zero => exact absurd HA.out (by simp [r4Check.l0])
     | succ k2 =>
      have H := HA.out;clear HA;simp only [r4Check.l0] at H;by_cases c19 : x3_2 < a0_1
      ·rw [if_pos c19] at H;have c19b0 : decide (x3_2 < a0_1) = true := decide_eq_true c19;clear c19;by_cases c20 : 0 ≤ x3_2
       ·rw [if_pos c20] at H;have c20b0 : decide (0 ≤ x3_2) = true := decide_eq_true c20;clear c20;by_cases c21 : x3_2 < (l0_2.length : Int)
        ·rw [if_pos c21] at H;have c21b0 : decide (x3_2 < (l0_2.length : Int)) = true := decide_eq_true c21;clear c21;by_cases c22 : (rd l0_2 x3_2) < 0
         ·rw [if_pos c22] at H;have c22b0 : decide ((rd l0_2 x3_2) < 0) = true := decide_eq_true c22;clear c22;obtain rfl := Option.some.inj H;have hcz23_0 : wr.cell? ⟨gb125, 0, none⟩ = some (.int .i64 a0_0) := (kC BK125.out 0).trans rfl;have hcz23_1 : wr.cell? ⟨gb125, 1, none⟩ = some (.int .i64 a0_1) := (kC BK125.out 1).trans rfl;have hcz23_2 : wr.cell? ⟨gb125, 2, none⟩ = some (.slice A0_2 l0_2.length c0_2) := (kC BK125.out 2).trans rfl;have hfz23_0 := kF BK125.out 0;have hfz23_1 := kF BK125.out 1;have hfz23_2 := kF BK125.out 2;have p128 : 0 ≤ (x3_2 : Int) := of_decide_eq_true (by first | (with_reducible assumption) | assumption);have q128 : x3_2 < (l0_2.length : Int) := of_decide_eq_true (by first | (with_reducible assumption) | assumption);obtain ⟨ad128, e128, hx128_0⟩ := Kd.at_int HR0_2.out x3_2 p128 q128
          cases e128
          replace hx128_0 := (HB.out.cell (World.block_lt_of_cell? w _ hx128_0)).trans hx128_0;replace p128 := eq_true p128;replace q128 := eq_true q128;go_wp2
          repeat (go_quiet (fail); try go_wp2)
          go_ret
          exact ⟨by first | rfl | (simp [*, eN, eS] <;> rfl), bJ HB.out GE125.out⟩
         rw [if_neg c22] at H;have c22b0 : decide ((rd l0_2 x3_2) < 0) = false := decide_eq_false c22;clear c22;by_cases c24 : (rd l0_2 x3_2) ≥ a0_0
         ·rw [if_pos c24] at H;have c24b0 : decide (a0_0 ≤ (rd l0_2 x3_2)) = true := decide_eq_true c24;clear c24;obtain rfl := Option.some.inj H;have hcz25_0 : wr.cell? ⟨gb125, 0, none⟩ = some (.int .i64 a0_0) := (kC BK125.out 0).trans rfl;have hcz25_1 : wr.cell? ⟨gb125, 1, none⟩ = some (.int .i64 a0_1) := (kC BK125.out 1).trans rfl;have hcz25_2 : wr.cell? ⟨gb125, 2, none⟩ = some (.slice A0_2 l0_2.length c0_2) := (kC BK125.out 2).trans rfl;have hfz25_0 := kF BK125.out 0;have hfz25_1 := kF BK125.out 1;have hfz25_2 := kF BK125.out 2;have p128 : 0 ≤ (x3_2 : Int) := of_decide_eq_true (by first | (with_reducible assumption) | assumption);have q128 : x3_2 < (l0_2.length : Int) := of_decide_eq_true (by first | (with_reducible assumption) | assumption);obtain ⟨ad128, e128, hx128_0⟩ := Kd.at_int HR0_2.out x3_2 p128 q128
          cases e128
          replace hx128_0 := (HB.out.cell (World.block_lt_of_cell? w _ hx128_0)).trans hx128_0;replace p128 := eq_true p128;replace q128 := eq_true q128;have p129 : 0 ≤ (x3_2 : Int) := of_decide_eq_true (by first | (with_reducible assumption) | assumption);have q129 : x3_2 < (l0_2.length : Int) := of_decide_eq_true (by first | (with_reducible assumption) | assumption);obtain ⟨ad129, e129, hx129_0⟩ := Kd.at_int HR0_2.out x3_2 p129 q129;obtain rfl : ad128 = ad129 := (by injection e129);replace hx129_0 := (HB.out.cell (World.block_lt_of_cell? w _ hx129_0)).trans hx129_0;replace p129 := eq_true p129;replace q129 := eq_true q129;go_wp2
          repeat (go_quiet (fail); try go_wp2)
          go_ret
          exact ⟨by first | rfl | (simp [*, eN, eS] <;> rfl), bJ HB.out GE125.out⟩
         rw [if_neg c24] at H;have c24b0 : decide (a0_0 ≤ (rd l0_2 x3_2)) = false := decide_eq_false c24;clear c24;have H' := Q9a.mk H;clear H;have hcz26_0 : wr.cell? ⟨gb125, 0, none⟩ = some (.int .i64 a0_0) := (kC BK125.out 0).trans rfl;have hcz26_1 : wr.cell? ⟨gb125, 1, none⟩ = some (.int .i64 a0_1) := (kC BK125.out 1).trans rfl;have hcz26_2 : wr.cell? ⟨gb125, 2, none⟩ = some (.slice A0_2 l0_2.length c0_2) := (kC BK125.out 2).trans rfl;have hfz26_0 := kF BK125.out 0;have hfz26_1 := kF BK125.out 1;have hfz26_2 := kF BK125.out 2;have p128 : 0 ≤ (x3_2 : Int) := of_decide_eq_true (by first | (with_reducible assumption) | assumption);have q128 : x3_2 < (l0_2.length : Int) := of_decide_eq_true (by first | (with_reducible assumption) | assumption);obtain ⟨ad128, e128, hx128_0⟩ := Kd.at_int HR0_2.out x3_2 p128 q128
         cases e128
         replace hx128_0 := (HB.out.cell (World.block_lt_of_cell? w _ hx128_0)).trans hx128_0;replace p128 := eq_true p128;replace q128 := eq_true q128;have p129 : 0 ≤ (x3_2 : Int) := of_decide_eq_true (by first | (with_reducible assumption) | assumption);have q129 : x3_2 < (l0_2.length : Int) := of_decide_eq_true (by first | (with_reducible assumption) | assumption);obtain ⟨ad129, e129, hx129_0⟩ := Kd.at_int HR0_2.out x3_2 p129 q129;obtain rfl : ad128 = ad129 := (by injection e129);replace hx129_0 := (HB.out.cell (World.block_lt_of_cell? w _ hx129_0)).trans hx129_0;replace p129 := eq_true p129;replace q129 := eq_true q129;go_wp2
         repeat (go_quiet (fail); try go_wp2)
         go_roundg k2
         case measure => have := HJ1.out; have := HK2.out; omega
         case rel => exact ⟨(wrap64 (x3_2 + 1)), (by first | rfl | (simp; done) | (simp [*]; done)), H', ⟨by have := HJ1.out; have := HK2.out; omega⟩, ⟨kI BK125.out⟩, ⟨bJ HB.out GE125.out⟩⟩
        rw [if_neg c21] at H;exact absurd H (by simp)
       rw [if_neg c20] at H;exact absurd H (by simp)
      rw [if_neg c19] at H;have c19b0 : decide (x3_2 < a0_1) = false := decide_eq_false c19;clear c19;replace H := Option.bind_eq_some_iff.mp H;obtain ⟨t130, A270, H⟩ := H;replace H : (if t130 = true then (some 0) else (some 1)) = some r := H;have A27 := Q9a.mk A270;clear A270;by_cases c28 : t130 = true
      ·subst c28;have H1 : (some 0) = some r := by rw [if_pos rfl] at H; exact H
       clear H;have H := H1;clear H1;obtain rfl := Option.some.inj H;have hcz29_0 : wr.cell? ⟨gb125, 0, none⟩ = some (.int .i64 a0_0) := (kC BK125.out 0).trans rfl;have hcz29_1 : wr.cell? ⟨gb125, 1, none⟩ = some (.int .i64 a0_1) := (kC BK125.out 1).trans rfl;have hcz29_2 : wr.cell? ⟨gb125, 2, none⟩ = some (.slice A0_2 l0_2.length c0_2) := (kC BK125.out 2).trans rfl;have hfz29_0 := kF BK125.out 0;have hfz29_1 := kF BK125.out 1;have hfz29_2 := kF BK125.out 2;go_wp2_with (first | (go_at_call 61; (with_reducible refine (r4irreducible.calls k2 _ _ l0_2 a0_0 true _ ?side1 ?side2 A27.out).mono ?_); (case side1 => exact cI HR0_2.out HB.out); (case side2 => exact HC0_2.out); rintro e w30 ⟨rfl, hb⟩; have n0_ := Q9a.mk (kB (g := gb125) (o := .cells #[.int .i64 a0_0, .int .i64 a0_1, .slice A0_2 l0_2.length c0_2] 24 (0, 0)) (kI BK125.out) hb); have n1_ := Q9a.mk (bP (bJ HB.out GE125.out) hb); clear BK125; clear HB; have BK125 := n0_; have HB := n1_; clear n0_ n1_; (try clear hb); (try clear hb2); (try clear hk); (try clear hi)))
       repeat (go_quiet (first | (go_at_call 61; (with_reducible refine (r4irreducible.calls k2 _ _ l0_2 a0_0 true _ ?side1 ?side2 A27.out).mono ?_); (case side1 => exact cI HR0_2.out HB.out); (case side2 => exact HC0_2.out); rintro e w30 ⟨rfl, hb⟩; have n0_ := Q9a.mk (kB (g := gb125) (o := .cells #[.int .i64 a0_0, .int .i64 a0_1, .slice A0_2 l0_2.length c0_2] 24 (0, 0)) (kI BK125.out) hb); have n1_ := Q9a.mk (bP (bJ HB.out GE125.out) hb); clear BK125; clear HB; have BK125 := n0_; have HB := n1_; clear n0_ n1_; (try clear hb); (try clear hb2); (try clear hk); (try clear hi))); try go_wp2_with (first | (go_at_call 61; (with_reducible refine (r4irreducible.calls k2 _ _ l0_2 a0_0 true _ ?side1 ?side2 A27.out).mono ?_); (case side1 => exact cI HR0_2.out HB.out); (case side2 => exact HC0_2.out); rintro e w30 ⟨rfl, hb⟩; have n0_ := Q9a.mk (kB (g := gb125) (o := .cells #[.int .i64 a0_0, .int .i64 a0_1, .slice A0_2 l0_2.length c0_2] 24 (0, 0)) (kI BK125.out) hb); have n1_ := Q9a.mk (bP (bJ HB.out GE125.out) hb); clear BK125; clear HB; have BK125 := n0_; have HB := n1_; clear n0_ n1_; (try clear hb); (try clear hb2); (try clear hk); (try clear hi))))
       go_ret
       exact ⟨by first | rfl | (simp [*, eN, eS] <;> rfl), bJ HB.out GE125.out⟩
      replace c28 := Bool.eq_false_iff.mpr c28;subst c28;have H1 : (some 1) = some r := by rw [if_neg (show ¬ (false = true) by decide)] at H; exact H
      clear H;have H := H1;clear H1;obtain rfl := Option.some.inj H;have hcz31_0 : wr.cell? ⟨gb125, 0, none⟩ = some (.int .i64 a0_0) := (kC BK125.out 0).trans rfl;have hcz31_1 : wr.cell? ⟨gb125, 1, none⟩ = some (.int .i64 a0_1) := (kC BK125.out 1).trans rfl;have hcz31_2 : wr.cell? ⟨gb125, 2, none⟩ = some (.slice A0_2 l0_2.length c0_2) := (kC BK125.out 2).trans rfl;have hfz31_0 := kF BK125.out 0;have hfz31_1 := kF BK125.out 1;have hfz31_2 := kF BK125.out 2;go_wp2_with (first | (go_at_call 61; (with_reducible refine (r4irreducible.calls k2 _ _ l0_2 a0_0 false _ ?side1 ?side2 A27.out).mono ?_); (case side1 => exact cI HR0_2.out HB.out); (case side2 => exact HC0_2.out); rintro e w32 ⟨rfl, hb⟩; have n0_ := Q9a.mk (kB (g := gb125) (o := .cells #[.int .i64 a0_0, .int .i64 a0_1, .slice A0_2 l0_2.length c0_2] 24 (0, 0)) (kI BK125.out) hb); have n1_ := Q9a.mk (bP (bJ HB.out GE125.out) hb); clear BK125; clear HB; have BK125 := n0_; have HB := n1_; clear n0_ n1_; (try clear hb); (try clear hb2); (try clear hk); (try clear hi)))
      repeat (go_quiet (first | (go_at_call 61; (with_reducible refine (r4irreducible.calls k2 _ _ l0_2 a0_0 false _ ?side1 ?side2 A27.out).mono ?_); (case side1 => exact cI HR0_2.out HB.out); (case side2 => exact HC0_2.out); rintro e w32 ⟨rfl, hb⟩; have n0_ := Q9a.mk (kB (g := gb125) (o := .cells #[.int .i64 a0_0, .int .i64 a0_1, .slice A0_2 l0_2.length c0_2] 24 (0, 0)) (kI BK125.out) hb); have n1_ := Q9a.mk (bP (bJ HB.out GE125.out) hb); clear BK125; clear HB; have BK125 := n0_; have HB := n1_; clear n0_ n1_; (try clear hb); (try clear hb2); (try clear hk); (try clear hi))); try go_wp2_with (first | (go_at_call 61; (with_reducible refine (r4irreducible.calls k2 _ _ l0_2 a0_0 false _ ?side1 ?side2 A27.out).mono ?_); (case side1 => exact cI HR0_2.out HB.out); (case side2 => exact HC0_2.out); rintro e w32 ⟨rfl, hb⟩; have n0_ := Q9a.mk (kB (g := gb125) (o := .cells #[.int .i64 a0_0, .int .i64 a0_1, .slice A0_2 l0_2.length c0_2] 24 (0, 0)) (kI BK125.out) hb); have n1_ := Q9a.mk (bP (bJ HB.out GE125.out) hb); clear BK125; clear HB; have BK125 := n0_; have HB := n1_; clear n0_ n1_; (try clear hb); (try clear hb2); (try clear hk); (try clear hi))))
      go_ret
      exact ⟨by first | rfl | (simp [*, eN, eS] <;> rfl), bJ HB.out GE125.out⟩
   rw [if_neg c17] at H;have c17b0 : ((l0_2.length : Int) == a0_1) = false := beq_eq_false_iff_ne.mpr c17;have c17b1 : ((l0_2.length : Int) != a0_1) = true := bne_iff_ne.mpr c17;obtain rfl := Option.some.inj H;have hcz33_0 : wc.cell? ⟨gb125, 0, none⟩ = some (.int .i64 a0_0) := (kC BK125.out 0).trans rfl;have hcz33_1 : wc.cell? ⟨gb125, 1, none⟩ = some (.int .i64 a0_1) := (kC BK125.out 1).trans rfl;have hcz33_2 : wc.cell? ⟨gb125, 2, none⟩ = some (.slice A0_2 l0_2.length c0_2) := (kC BK125.out 2).trans rfl;have hfz33_0 := kF BK125.out 0;have hfz33_1 := kF BK125.out 1;have hfz33_2 := kF BK125.out 2;go_wp2
   repeat (go_quiet (fail); try go_wp2)
   go_ret
   exact ⟨by first | rfl | (simp [*, eN, eS] <;> rfl), bJ HB.out GE125.out⟩
mutual
def field_order.j0 : Nat → Int → Int → Bool → Option (Int)
 | 0, _, _, _ => none
 | k + 1, x0, x1, x19 => if x19 = true then (some 0) else (field_order.l0 k x0 1 x1 0)
def field_order.l0 : Nat → Int → Int → Int → Int → Option (Int)
 | 0, _, _, _, _ => none
 | k + 1, x0, x5, x20, x21 => if x21 < x20 then (if (wrap64 (x5 * x0)) > 256 then (some 0) else (field_order.l0 k x0 (wrap64 (x5 * x0)) x20 (wrap64 (x21 + 1)))) else (some x5)
end
def field_order.f (k : Nat) (a0 : Int) (a1 : Int) : Option (Int) := if a0 < 2 then (field_order.j0 k a0 a1 true) else (if a0 > 256 then (field_order.j0 k a0 a1 true) else (if a1 < 1 then (field_order.j0 k a0 a1 true) else (field_order.j0 k a0 a1 (decide (a1 > 8)))))
theorem field_order.calls (k : Nat) (a0 : Int) (a1 : Int) (r : Int) (w : World) (h : field_order.f k a0 a1 = some r) :
  Calls Try.prog 66 #[.int .i64 a0, .int .i64 a1] w fun e w' => e = .returned (.int .i64 r) ∧ Drawn0 w w' := by
 have H : (if a0 < 2 then (field_order.j0 k a0 a1 true) else (if a0 > 256 then (field_order.j0 k a0 a1 true) else (if a1 < 1 then (field_order.j0 k a0 a1 true) else (field_order.j0 k a0 a1 (decide (a1 > 8)))))) = some r := h;clear h;have HC3 := Q9a.mk H;clear H;go_enter Try.func66, Try.ntmps66
 go_upto_region 1 with (fail)
 go_cut [19] (fun v19 wc => ∃ (kq : Nat) (x19_2 : Bool), v19 = .bool x19_2 ∧ Q9a (field_order.j0 kq a0 a1 x19_2 = some r) ∧ Q9a (kq ≤ k) ∧ Drawn0 w wc)
 case first =>
  have H := HC3.out;clear HC3;by_cases c4 : a0 < 2
  ·rw [if_pos c4] at H;have c4b0 : decide (a0 < 2) = true := decide_eq_true c4;clear c4;(first | rw [c4b0] | (simp only [i64_w, i32_w]; rw [c4b0]) | skip)
   have H' := Q9a.mk H;clear H;go_wp2
   go_meet
   case rel => exact ⟨_, (true), (by first | rfl | (simp; done) | (simp [*]; done)), H', ⟨by first | omega | exact Nat.le_refl _⟩, by repeat (first | exact Drawn0.refl _ | apply Drawn0.step)⟩
  rw [if_neg c4] at H;have c4b0 : decide (a0 < 2) = false := decide_eq_false c4;clear c4;(first | rw [c4b0] | (simp only [i64_w, i32_w]; rw [c4b0]) | skip)
  by_cases c5 : a0 > 256
  ·rw [if_pos c5] at H;have c5b0 : decide (256 < a0) = true := decide_eq_true c5;clear c5;have H' := Q9a.mk H;clear H;go_wp2
   go_meet
   case rel => exact ⟨_, (true), (by first | rfl | (simp; done) | (simp [*]; done)), H', ⟨by first | omega | exact Nat.le_refl _⟩, by repeat (first | exact Drawn0.refl _ | apply Drawn0.step)⟩
  rw [if_neg c5] at H;have c5b0 : decide (256 < a0) = false := decide_eq_false c5;clear c5;by_cases c6 : a1 < 1
  ·rw [if_pos c6] at H;have c6b0 : decide (a1 < 1) = true := decide_eq_true c6;clear c6;have H' := Q9a.mk H;clear H;go_wp2
   go_meet
   case rel => exact ⟨_, (true), (by first | rfl | (simp; done) | (simp [*]; done)), H', ⟨by first | omega | exact Nat.le_refl _⟩, by repeat (first | exact Drawn0.refl _ | apply Drawn0.step)⟩
  rw [if_neg c6] at H;have c6b0 : decide (a1 < 1) = false := decide_eq_false c6;clear c6;have H' := Q9a.mk H;clear H;go_wp2
  go_meet
  case rel => exact ⟨_, (decide (a1 > 8)), (by first | rfl | (simp; done) | (simp [*]; done)), H', ⟨by first | omega | exact Nat.le_refl _⟩, by repeat (first | exact Drawn0.refl _ | apply Drawn0.step)⟩
 case rest =>
  clear HC3;try clear p2
  try clear c4
  try clear c4b0
  try clear c5
  try clear c5b0
  try clear c6
  try clear c6b0
  obtain ⟨kq, x19_2, rfl, HA, HJ2, ⟨mc2, rfl⟩⟩ := hcut
  cases kq with
  | zero => exact absurd HA.out (by simp [field_order.j0])
  | succ kj2 =>
   have H := HA.out;clear HA;simp only [field_order.j0] at H;by_cases c7 : x19_2 = true
   ·subst c7;have H1 : (some 0) = some r := by rw [if_pos rfl] at H; exact H
    clear H;have H := H1;clear H1;obtain rfl := Option.some.inj H;go_wp2
    go_ret
    exact ⟨by first | rfl | (simp; done) | (simp [*]; done), by repeat (first | exact Drawn0.refl _ | apply Drawn0.step)⟩
   replace c7 := Bool.eq_false_iff.mpr c7;subst c7;have H1 : (field_order.l0 kj2 a0 1 a1 0) = some r := by rw [if_neg (show ¬ (false = true) by decide)] at H; exact H
   clear H;have H := H1;clear H1;have H' := Q9a.mk H;clear H;go_wp2
   go_loopg [5, 21] kj2 (fun kq v5 v21 w' => ∃ (x5_2 : Int) (x21_2 : Int), v5 = .int .i64 x5_2 ∧ v21 = .int .i64 x21_2 ∧ Q9a (field_order.l0 kq a0 x5_2 a1 x21_2 = some r) ∧ Q9a (kq ≤ kj2) ∧ Drawn0 w w')
   case atStart => exact ⟨(1), (0), (by first | rfl | (simp; done) | (simp [*]; done)), (by first | rfl | (simp; done) | (simp [*]; done)), H', ⟨Nat.le_refl _⟩, by repeat (first | exact Drawn0.refl _ | apply Drawn0.step)⟩
   case round =>
    clear H';try clear c2
    try clear p2
    try clear c4
    try clear c4b0
    try clear c5
    try clear c5b0
    try clear c6
    try clear c6b0
    try clear c7
    try clear p2
    obtain ⟨x5_2, x21_2, rfl, rfl, HA, HK2, ⟨m2, rfl⟩⟩ := hrel
    cases gk with
    | zero => exact absurd HA.out (by simp [field_order.l0])
    | succ k2 =>
     have H := HA.out;clear HA;simp only [field_order.l0] at H;by_cases c8 : x21_2 < a1
     ·rw [if_pos c8] at H;have c8b0 : decide (x21_2 < a1) = true := decide_eq_true c8;clear c8;by_cases c9 : (wrap64 (x5_2 * a0)) > 256
      ·rw [if_pos c9] at H;have c9b0 : decide (256 < (wrap64 (x5_2 * a0))) = true := decide_eq_true c9;clear c9;obtain rfl := Option.some.inj H;go_wp2
       go_ret
       exact ⟨by first | rfl | (simp; done) | (simp [*]; done), by repeat (first | exact Drawn0.refl _ | apply Drawn0.step)⟩
      rw [if_neg c9] at H;have c9b0 : decide (256 < (wrap64 (x5_2 * a0))) = false := decide_eq_false c9;clear c9;have H' := Q9a.mk H;clear H;go_wp2
      go_roundg k2
      case measure => have := HJ2.out; have := HK2.out; omega
      case rel => exact ⟨(wrap64 (x5_2 * a0)), (wrap64 (x21_2 + 1)), (by first | rfl | (simp; done) | (simp [*]; done)), (by first | rfl | (simp; done) | (simp [*]; done)), H', ⟨by have := HJ2.out; have := HK2.out; omega⟩, by repeat (first | exact Drawn0.refl _ | apply Drawn0.step)⟩
     rw [if_neg c8] at H;have c8b0 : decide (x21_2 < a1) = false := decide_eq_false c8;clear c8;obtain rfl := Option.some.inj H;go_wp2
     go_ret
     exact ⟨by first | rfl | (simp; done) | (simp [*]; done), by repeat (first | exact Drawn0.refl _ | apply Drawn0.step)⟩
def field_isPrime.l0 : Nat → Int → Int → Option (Bool)
 | 0, _, _ => none
 | k + 1, x0, x3 => if (wrap64 (x3 * x3)) ≤ x0 then (if x3 = 0 then (none) else (if (Int.tmod x0 x3) = 0 then (some false) else (field_isPrime.l0 k x0 (wrap64 (x3 + 1))))) else (some (decide (x0 ≥ 2)))
def field_isPrime.f (k : Nat) (a0 : Int) : Option (Bool) := field_isPrime.l0 k a0 2
theorem field_isPrime.calls (k : Nat) (a0 : Int) (r : Bool) (w : World) (h : field_isPrime.f k a0 = some r) :
  Calls Try.prog 90 #[.int .i64 a0] w fun e w' => e = .returned (.bool r) ∧ Drawn0 w w' := by
 have H : (field_isPrime.l0 k a0 2) = some r := h;clear h;have H' := Q9a.mk H;clear H;go_enter Try.func90, Try.ntmps90
 go_wp2
 go_loopg [3] k (fun kq v3 w' => ∃ (x3_1 : Int), v3 = .int .i64 x3_1 ∧ Q9a (field_isPrime.l0 kq a0 x3_1 = some r) ∧ Q9a (kq ≤ k) ∧ Drawn0 w w')
 case atStart => exact ⟨(2), (by first | rfl | (simp; done) | (simp [*]; done)), H', ⟨Nat.le_refl _⟩, by repeat (first | exact Drawn0.refl _ | apply Drawn0.step)⟩
 case round =>
  clear H';obtain ⟨x3_1, rfl, HA, HK1, ⟨m1, rfl⟩⟩ := hrel
  cases gk with
  | zero => exact absurd HA.out (by simp [field_isPrime.l0])
  | succ k1 =>
   have H := HA.out;clear HA;simp only [field_isPrime.l0] at H;by_cases c2 : (wrap64 (x3_1 * x3_1)) ≤ a0
   ·rw [if_pos c2] at H;have c2b0 : decide ((wrap64 (x3_1 * x3_1)) ≤ a0) = true := decide_eq_true c2;clear c2;by_cases c3 : x3_1 = 0
    ·rw [if_pos c3] at H;exact absurd H (by simp)
    rw [if_neg c3] at H;have c3b0 : (x3_1 == 0) = false := beq_eq_false_iff_ne.mpr c3;have c3b1 : (x3_1 != 0) = true := bne_iff_ne.mpr c3;by_cases c4 : (Int.tmod a0 x3_1) = 0
    ·rw [if_pos c4] at H;have c4b0 : ((Int.tmod a0 x3_1) == 0) = true := beq_iff_eq.mpr c4;have c4b1 : ((Int.tmod a0 x3_1) != 0) = false := bne_eq_false_iff_eq.mpr c4;clear c4;obtain rfl := Option.some.inj H;go_wp2
     go_ret
     exact ⟨by first | rfl | (simp; done) | (simp [*]; done), by repeat (first | exact Drawn0.refl _ | apply Drawn0.step)⟩
    rw [if_neg c4] at H;have c4b0 : ((Int.tmod a0 x3_1) == 0) = false := beq_eq_false_iff_ne.mpr c4;have c4b1 : ((Int.tmod a0 x3_1) != 0) = true := bne_iff_ne.mpr c4;have H' := Q9a.mk H;clear H;go_wp2
    go_roundg k1
    case measure => have := HK1.out; omega
    case rel => exact ⟨(wrap64 (x3_1 + 1)), (by first | rfl | (simp; done) | (simp [*]; done)), H', ⟨by have := HK1.out; omega⟩, by repeat (first | exact Drawn0.refl _ | apply Drawn0.step)⟩
   rw [if_neg c2] at H;have c2b0 : decide ((wrap64 (x3_1 * x3_1)) ≤ a0) = false := decide_eq_false c2;clear c2;obtain rfl := Option.some.inj H;go_wp2
   go_ret
   exact ⟨by first | rfl | (simp; done) | (simp [*]; done), by repeat (first | exact Drawn0.refl _ | apply Drawn0.step)⟩
end
end Go.Proofs.Ytlbddjojhcgpiaa.P
end
-- Pa4
section
namespace Go.Proofs.Ytlbddjojhcgpiaa.P
noncomputable section
open Go.RowKit Go.Proofs.Ytlbddjojhcgpiaa.Hand Go.Proofs.YtlbddjojhcgpiaaW.PrintWords Go.Proofs.YtlbddjojhcgpiaaW.PrintLast Go.Proofs.YtlbddjojhcgpiaaW.PrintMore
set_option linter.unusedVariables false
set_option linter.unusedSimpArgs false
mutual
def field_shape.j0 : Nat → Bool → Int → Int → List Int → Option (Bool)
 | 0, _, _, _, _ => none
 | k + 1, x16, x132000, x132001, x132002 => if x16 = true then (some false) else (if x132001 = 1 then (some ((x132002.length : Int) == 0)) else (if (x132002.length : Int) = x132001 then (field_shape.l0 k x132002 (x132002.length : Int) 0 x132000 x132001 x132002) else (some false)))
def field_shape.l0 : Nat → List Int → Int → Int → Int → Int → List Int → Option (Bool)
 | 0, _, _, _, _, _, _ => none
 | k + 1, x31, x32, x33, x132000, x132001, x132002 => if x33 < x32 then (if 0 ≤ x33 then (if x33 < (x31.length : Int) then (if (rd x31 x33) < 0 then (some false) else (if (rd x31 x33) ≥ x132000 then (some false) else (field_shape.l0 k x31 x32 (wrap64 (x33 + 1)) x132000 x132001 x132002))) else (none)) else (none)) else (some true)
end
def field_shape.f (k : Nat) (a0_0 : Int) (a0_1 : Int) (l0_2 : List Int) : Option (Bool) := (field_order.f k a0_0 a0_1).bind fun t132 => (if t132 = 0 then (field_shape.j0 k true a0_0 a0_1 l0_2) else ((field_isPrime.f k a0_0).bind fun t133 => (field_shape.j0 k (!t133) a0_0 a0_1 l0_2)))
theorem field_shape.calls (k : Nat) (a0_0 : Int) (a0_1 : Int) (A0_2 : Option Addr) (c0_2 : Nat) (l0_2 : List Int) (r : Bool) (w : World) (hr0_2 : Kd.C (Kd.int .i64) w A0_2 l0_2.length l0_2) (hc0_2 : l0_2.length ≤ c0_2) (h : field_shape.f k a0_0 a0_1 l0_2 = some r) :
  Calls Try.prog 65 #[.agg #[.int .i64 a0_0, .int .i64 a0_1, .slice A0_2 l0_2.length c0_2]] w fun e w' => e = .returned (.bool r) ∧ Below w.heap.size w w' := by
 have hu24 := Try.underlying24;have HR0_2 := Q9a.mk hr0_2;have HC0_2 := Q9a.mk hc0_2;clear hr0_2 hc0_2;have HB := Q9a.mk (Below.refl w.heap.size w);have H : ((field_order.f k a0_0 a0_1).bind fun t132 => (if t132 = 0 then (field_shape.j0 k true a0_0 a0_1 l0_2) else ((field_isPrime.f k a0_0).bind fun t133 => (field_shape.j0 k (!t133) a0_0 a0_1 l0_2)))) = some r := h;clear h;have HC2 := Q9a.mk H;clear H;go_enter Try.func65, Try.ntmps65
 go_upto_region 1 with (first | ((with_reducible refine gD (N := 1) rfl ?_); refine bE ?hg (N := 1) ?hd (cs := #[.int .i64 a0_0, .int .i64 a0_1, .slice A0_2 l0_2.length c0_2]) (t := 24) ?hr ?_; (case hd => rfl); (case hg => rfl); (case hr => first | (go_simp; done) | (go_simp; rfl)); intro gb131 hg w3 hbox hb; have n0_ := Q9a.mk (bP (bI HB.out) hb); have n1_ := Q9a.mk (hbox); have n2_ := Q9a.mk ((by rw [hg]; exact (bZ (bI HB.out)) : w.heap.size ≤ gb131)); have n3_ := n2_; clear HB; have HB := n0_; have BK131 := n1_; have GW131 := n2_; have GE131 := n3_; clear n0_ n1_ n2_ n3_; clear hb hbox hg))
 (try simp only [Act.put, sz1, sz2, sz3])
 go_cut [16] (fun v16 wc => ∃ (kq : Nat) (x16_1 : Bool), v16 = .bool x16_1 ∧ Q9a (field_shape.j0 kq x16_1 a0_0 a0_1 l0_2 = some r) ∧ Q9a (kq ≤ k) ∧ Q9a (wc.heap[gb131]? = some (.cells #[.int .i64 a0_0, .int .i64 a0_1, (.slice A0_2 l0_2.length c0_2)] 24 (0, 0))) ∧ Q9a (Below w.heap.size w wc))
 case first =>
  have H := HC2.out;clear HC2;replace H := Option.bind_eq_some_iff.mp H;obtain ⟨t132, A40, H⟩ := H;replace H : (if t132 = 0 then (field_shape.j0 k true a0_0 a0_1 l0_2) else ((field_isPrime.f k a0_0).bind fun t133 => (field_shape.j0 k (!t133) a0_0 a0_1 l0_2))) = some r := H;have A4 := Q9a.mk A40;clear A40;by_cases c5 : t132 = 0
  ·rw [if_pos c5] at H;have c5b0 : (t132 == 0) = true := beq_iff_eq.mpr c5;have c5b1 : (t132 != 0) = false := bne_eq_false_iff_eq.mpr c5;clear c5;(first | rw [c5b0] | (simp only [i64_w, i32_w]; rw [c5b0]) | skip)
   have H' := Q9a.mk H;clear H;have hcz6_0 : w3.cell? ⟨gb131, 0, none⟩ = some (.int .i64 a0_0) := (kC BK131.out 0).trans rfl;have hcz6_1 : w3.cell? ⟨gb131, 1, none⟩ = some (.int .i64 a0_1) := (kC BK131.out 1).trans rfl;have hcz6_2 : w3.cell? ⟨gb131, 2, none⟩ = some (.slice A0_2 l0_2.length c0_2) := (kC BK131.out 2).trans rfl;have hfz6_0 := kF BK131.out 0;have hfz6_1 := kF BK131.out 1;have hfz6_2 := kF BK131.out 2;go_wp2_with (first | ((with_reducible refine gC (f := 66) rfl ?_); refine gL (some 9) rfl rfl Try.func66 (by kernel_rfl) rfl #[.int .i64 a0_0, .int .i64 a0_1] rfl (by (try simp only [sm1, sm2, sm3]); first | done | rfl | (simp only [sm4, sm5]; rfl)) ?_; (with_reducible refine (field_order.calls k a0_0 a0_1 t132 _ A4.out).mono ?_); rintro e w' ⟨rfl, ⟨nd, rfl⟩⟩; refine ⟨_, rfl, ?_⟩))
   go_meet
   case rel => exact ⟨_, (true), (by first | rfl | (simp; done) | (simp [*]; done)), H', ⟨by first | omega | exact Nat.le_refl _⟩, ⟨kI BK131.out⟩, ⟨bJ HB.out GE131.out⟩⟩
  rw [if_neg c5] at H;have c5b0 : (t132 == 0) = false := beq_eq_false_iff_ne.mpr c5;have c5b1 : (t132 != 0) = true := bne_iff_ne.mpr c5;(first | rw [c5b0] | (simp only [i64_w, i32_w]; rw [c5b0]) | skip)
  replace H := Option.bind_eq_some_iff.mp H;obtain ⟨t133, A70, H⟩ := H;replace H : (field_shape.j0 k (!t133) a0_0 a0_1 l0_2) = some r := H;have A7 := Q9a.mk A70;clear A70;have H' := Q9a.mk H;clear H;have hcz8_0 : w3.cell? ⟨gb131, 0, none⟩ = some (.int .i64 a0_0) := (kC BK131.out 0).trans rfl;have hcz8_1 : w3.cell? ⟨gb131, 1, none⟩ = some (.int .i64 a0_1) := (kC BK131.out 1).trans rfl;have hcz8_2 : w3.cell? ⟨gb131, 2, none⟩ = some (.slice A0_2 l0_2.length c0_2) := (kC BK131.out 2).trans rfl;have hfz8_0 := kF BK131.out 0;have hfz8_1 := kF BK131.out 1;have hfz8_2 := kF BK131.out 2;go_wp2_with (first | ((with_reducible refine gC (f := 66) rfl ?_); refine gL (some 9) rfl rfl Try.func66 (by kernel_rfl) rfl #[.int .i64 a0_0, .int .i64 a0_1] rfl (by (try simp only [sm1, sm2, sm3]); first | done | rfl | (simp only [sm4, sm5]; rfl)) ?_; (with_reducible refine (field_order.calls k a0_0 a0_1 t132 _ A4.out).mono ?_); rintro e w' ⟨rfl, ⟨nd, rfl⟩⟩; refine ⟨_, rfl, ?_⟩) | (go_at_call 90; (with_reducible refine (field_isPrime.calls k a0_0 t133 _ A7.out).mono ?_); rintro e w' ⟨rfl, ⟨nd, rfl⟩⟩))
  go_meet
  case rel => exact ⟨_, (!t133), (by first | rfl | (simp; done) | (simp [*]; done)), H', ⟨by first | omega | exact Nat.le_refl _⟩, ⟨kI BK131.out⟩, ⟨bJ HB.out GE131.out⟩⟩
 case rest =>
  clear HC2;try clear p2
  try clear c5
  try clear c5b0
  try clear c5b1
  try clear c6
  try clear hcz6_0
  try clear hcz6_1
  try clear hcz6_2
  try clear hcz8_0
  try clear hcz8_1
  try clear hcz8_2
  try clear hfz6_0
  try clear hfz6_1
  try clear hfz6_2
  try clear hfz8_0
  try clear hfz8_1
  try clear hfz8_2
  obtain ⟨kq, x16_1, rfl, HA, HJ1, BK131, HB⟩ := hcut
  cases kq with
  | zero => exact absurd HA.out (by simp [field_shape.j0])
  | succ kj1 =>
   have H := HA.out;clear HA;simp only [field_shape.j0] at H;by_cases c9 : x16_1 = true
   ·subst c9;have H1 : (some false) = some r := by rw [if_pos rfl] at H; exact H
    clear H;have H := H1;clear H1;obtain rfl := Option.some.inj H;go_wp2
    go_ret
    exact ⟨by first | rfl | (simp [*, eN, eS] <;> rfl), bJ HB.out GE131.out⟩
   replace c9 := Bool.eq_false_iff.mpr c9;subst c9;have H1 : (if a0_1 = 1 then (some ((l0_2.length : Int) == 0)) else (if (l0_2.length : Int) = a0_1 then (field_shape.l0 kj1 l0_2 (l0_2.length : Int) 0 a0_0 a0_1 l0_2) else (some false))) = some r := by rw [if_neg (show ¬ (false = true) by decide)] at H; exact H
   clear H;have H := H1;clear H1;by_cases c10 : a0_1 = 1
   ·rw [if_pos c10] at H;have c10b0 : (a0_1 == 1) = true := beq_iff_eq.mpr c10;have c10b1 : (a0_1 != 1) = false := bne_eq_false_iff_eq.mpr c10;clear c10;obtain rfl := Option.some.inj H;have hcz11_0 : wc.cell? ⟨gb131, 0, none⟩ = some (.int .i64 a0_0) := (kC BK131.out 0).trans rfl;have hcz11_1 : wc.cell? ⟨gb131, 1, none⟩ = some (.int .i64 a0_1) := (kC BK131.out 1).trans rfl;have hcz11_2 : wc.cell? ⟨gb131, 2, none⟩ = some (.slice A0_2 l0_2.length c0_2) := (kC BK131.out 2).trans rfl;have hfz11_0 := kF BK131.out 0;have hfz11_1 := kF BK131.out 1;have hfz11_2 := kF BK131.out 2;go_wp2
    go_ret
    exact ⟨by first | rfl | (simp [*, eN, eS] <;> rfl), bJ HB.out GE131.out⟩
   rw [if_neg c10] at H;have c10b0 : (a0_1 == 1) = false := beq_eq_false_iff_ne.mpr c10;have c10b1 : (a0_1 != 1) = true := bne_iff_ne.mpr c10;by_cases c12 : (l0_2.length : Int) = a0_1
   ·rw [if_pos c12] at H;have c12b0 : ((l0_2.length : Int) == a0_1) = true := beq_iff_eq.mpr c12;have c12b1 : ((l0_2.length : Int) != a0_1) = false := bne_eq_false_iff_eq.mpr c12;clear c12;have H' := Q9a.mk H;clear H;have hcz13_0 : wc.cell? ⟨gb131, 0, none⟩ = some (.int .i64 a0_0) := (kC BK131.out 0).trans rfl;have hcz13_1 : wc.cell? ⟨gb131, 1, none⟩ = some (.int .i64 a0_1) := (kC BK131.out 1).trans rfl;have hcz13_2 : wc.cell? ⟨gb131, 2, none⟩ = some (.slice A0_2 l0_2.length c0_2) := (kC BK131.out 2).trans rfl;have hfz13_0 := kF BK131.out 0;have hfz13_1 := kF BK131.out 1;have hfz13_2 := kF BK131.out 2;go_wp2
    go_loopg [33] kj1 (fun kq v33 w' => ∃ (x33_2 : Int), v33 = .int .i64 x33_2 ∧ Q9a (field_shape.l0 kq l0_2 (l0_2.length : Int) x33_2 a0_0 a0_1 l0_2 = some r) ∧ Q9a (kq ≤ kj1) ∧ Q9a (w'.heap[gb131]? = some (.cells #[.int .i64 a0_0, .int .i64 a0_1, (.slice A0_2 l0_2.length c0_2)] 24 (0, 0))) ∧ Q9a (Below w.heap.size w w'))
    case atStart => exact ⟨(0), (by first | rfl | (simp; done) | (simp [*]; done)), H', ⟨Nat.le_refl _⟩, ⟨kI BK131.out⟩, ⟨bJ HB.out GE131.out⟩⟩
    case round =>
     clear H';try clear c1
     try clear p2
     try clear c5
     try clear c5b0
     try clear c5b1
     try clear c6
     try clear c9
     try clear c10
     try clear c10b0
     try clear c10b1
     try clear c12
     try clear c12b0
     try clear c12b1
     try clear hcz11_0
     try clear hcz11_1
     try clear hcz11_2
     try clear hcz13_0
     try clear hcz13_1
     try clear hcz13_2
     try clear hcz6_0
     try clear hcz6_1
     try clear hcz6_2
     try clear hcz8_0
     try clear hcz8_1
     try clear hcz8_2
     try clear hfz11_0
     try clear hfz11_1
     try clear hfz11_2
     try clear hfz13_0
     try clear hfz13_1
     try clear hfz13_2
     try clear hfz6_0
     try clear hfz6_1
     try clear hfz6_2
     try clear hfz8_0
     try clear hfz8_1
     try clear hfz8_2
     try clear p2
     obtain ⟨x33_2, rfl, HA, HK2, BK131, HB⟩ := hrel
     cases gk with
     | zero => exact absurd HA.out (by simp [field_shape.l0])
     | succ k2 =>
      have H := HA.out;clear HA;simp only [field_shape.l0] at H;by_cases c14 : x33_2 < (l0_2.length : Int)
      ·rw [if_pos c14] at H;have c14b0 : decide (x33_2 < (l0_2.length : Int)) = true := decide_eq_true c14;clear c14;by_cases c15 : 0 ≤ x33_2
       ·rw [if_pos c15] at H;have c15b0 : decide (0 ≤ x33_2) = true := decide_eq_true c15;clear c15;by_cases c16 : x33_2 < (l0_2.length : Int)
        ·rw [if_pos c16] at H;have c16b0 : decide (x33_2 < (l0_2.length : Int)) = true := decide_eq_true c16;clear c16;by_cases c17 : (rd l0_2 x33_2) < 0
         ·rw [if_pos c17] at H;have c17b0 : decide ((rd l0_2 x33_2) < 0) = true := decide_eq_true c17;clear c17;obtain rfl := Option.some.inj H;have p134 : 0 ≤ (x33_2 : Int) := of_decide_eq_true (by first | (with_reducible assumption) | assumption);have q134 : x33_2 < (l0_2.length : Int) := of_decide_eq_true (by first | (with_reducible assumption) | assumption);obtain ⟨ad134, e134, hx134_0⟩ := Kd.at_int HR0_2.out x33_2 p134 q134
          cases e134
          replace hx134_0 := (HB.out.cell (World.block_lt_of_cell? w _ hx134_0)).trans hx134_0;replace p134 := eq_true p134;replace q134 := eq_true q134;go_wp2
          go_ret
          exact ⟨by first | rfl | (simp [*, eN, eS] <;> rfl), bJ HB.out GE131.out⟩
         rw [if_neg c17] at H;have c17b0 : decide ((rd l0_2 x33_2) < 0) = false := decide_eq_false c17;clear c17;by_cases c18 : (rd l0_2 x33_2) ≥ a0_0
         ·rw [if_pos c18] at H;have c18b0 : decide (a0_0 ≤ (rd l0_2 x33_2)) = true := decide_eq_true c18;clear c18;obtain rfl := Option.some.inj H;have p134 : 0 ≤ (x33_2 : Int) := of_decide_eq_true (by first | (with_reducible assumption) | assumption);have q134 : x33_2 < (l0_2.length : Int) := of_decide_eq_true (by first | (with_reducible assumption) | assumption);obtain ⟨ad134, e134, hx134_0⟩ := Kd.at_int HR0_2.out x33_2 p134 q134
          cases e134
          replace hx134_0 := (HB.out.cell (World.block_lt_of_cell? w _ hx134_0)).trans hx134_0;replace p134 := eq_true p134;replace q134 := eq_true q134;have hcz19_0 : wr.cell? ⟨gb131, 0, none⟩ = some (.int .i64 a0_0) := (kC BK131.out 0).trans rfl;have hcz19_1 : wr.cell? ⟨gb131, 1, none⟩ = some (.int .i64 a0_1) := (kC BK131.out 1).trans rfl;have hcz19_2 : wr.cell? ⟨gb131, 2, none⟩ = some (.slice (some ad134) l0_2.length c0_2) := (kC BK131.out 2).trans rfl;have hfz19_0 := kF BK131.out 0;have hfz19_1 := kF BK131.out 1;have hfz19_2 := kF BK131.out 2;go_wp2
          go_ret
          exact ⟨by first | rfl | (simp [*, eN, eS] <;> rfl), bJ HB.out GE131.out⟩
         rw [if_neg c18] at H;have c18b0 : decide (a0_0 ≤ (rd l0_2 x33_2)) = false := decide_eq_false c18;clear c18;have H' := Q9a.mk H;clear H;have p134 : 0 ≤ (x33_2 : Int) := of_decide_eq_true (by first | (with_reducible assumption) | assumption);have q134 : x33_2 < (l0_2.length : Int) := of_decide_eq_true (by first | (with_reducible assumption) | assumption);obtain ⟨ad134, e134, hx134_0⟩ := Kd.at_int HR0_2.out x33_2 p134 q134
         cases e134
         replace hx134_0 := (HB.out.cell (World.block_lt_of_cell? w _ hx134_0)).trans hx134_0;replace p134 := eq_true p134;replace q134 := eq_true q134;have hcz20_0 : wr.cell? ⟨gb131, 0, none⟩ = some (.int .i64 a0_0) := (kC BK131.out 0).trans rfl;have hcz20_1 : wr.cell? ⟨gb131, 1, none⟩ = some (.int .i64 a0_1) := (kC BK131.out 1).trans rfl;have hcz20_2 : wr.cell? ⟨gb131, 2, none⟩ = some (.slice (some ad134) l0_2.length c0_2) := (kC BK131.out 2).trans rfl;have hfz20_0 := kF BK131.out 0;have hfz20_1 := kF BK131.out 1;have hfz20_2 := kF BK131.out 2;go_wp2
         go_roundg k2
         case measure => have := HJ1.out; have := HK2.out; omega
         case rel => exact ⟨(wrap64 (x33_2 + 1)), (by first | rfl | (simp; done) | (simp [*]; done)), H', ⟨by have := HJ1.out; have := HK2.out; omega⟩, ⟨kI BK131.out⟩, ⟨bJ HB.out GE131.out⟩⟩
        rw [if_neg c16] at H;exact absurd H (by simp)
       rw [if_neg c15] at H;exact absurd H (by simp)
      rw [if_neg c14] at H;have c14b0 : decide (x33_2 < (l0_2.length : Int)) = false := decide_eq_false c14;clear c14;obtain rfl := Option.some.inj H;go_wp2
      go_ret
      exact ⟨by first | rfl | (simp [*, eN, eS] <;> rfl), bJ HB.out GE131.out⟩
   rw [if_neg c12] at H;have c12b0 : ((l0_2.length : Int) == a0_1) = false := beq_eq_false_iff_ne.mpr c12;have c12b1 : ((l0_2.length : Int) != a0_1) = true := bne_iff_ne.mpr c12;obtain rfl := Option.some.inj H;have hcz21_0 : wc.cell? ⟨gb131, 0, none⟩ = some (.int .i64 a0_0) := (kC BK131.out 0).trans rfl;have hcz21_1 : wc.cell? ⟨gb131, 1, none⟩ = some (.int .i64 a0_1) := (kC BK131.out 1).trans rfl;have hcz21_2 : wc.cell? ⟨gb131, 2, none⟩ = some (.slice A0_2 l0_2.length c0_2) := (kC BK131.out 2).trans rfl;have hfz21_0 := kF BK131.out 0;have hfz21_1 := kF BK131.out 1;have hfz21_2 := kF BK131.out 2;go_wp2
   go_ret
   exact ⟨by first | rfl | (simp [*, eN, eS] <;> rfl), bJ HB.out GE131.out⟩
def field_digitsOf.l0 : Nat → Int → Int → List Int → Int → Int → Option (List Int)
 | 0, _, _, _, _, _ => none
 | k + 1, x0, x1, x7, x12, x13 => if x13 < x12 then (if x1 = 0 then (none) else (if 0 ≤ x13 then (if x13 < (x7.length : Int) then (field_digitsOf.l0 k (wrap64 (Int.tdiv x0 x1)) x1 (x7.set (x13 : Int).toNat (Int.tmod x0 x1)) x12 (wrap64 (x13 + 1))) else (none)) else (none))) else (some x7)
def field_digitsOf.f (k : Nat) (a0 : Int) (a1 : Int) (a2 : Int) : Option (List Int) := if 0 ≤ a2 then (if (a2 : Int).toNat ≤ 35184372088832 then ((some (List.replicate (a2 : Int).toNat 0 : List Int)).bind fun y135 => (field_digitsOf.l0 k a0 a1 y135 (y135.length : Int) 0)) else (none)) else (none)
theorem field_digitsOf.calls (k : Nat) (a0 : Int) (a1 : Int) (a2 : Int) (r : List Int) (w : World) (h : field_digitsOf.f k a0 a1 a2 = some r) :
  Calls Try.prog 87 #[.int .i64 a0, .int .i64 a1, .int .i64 a2] w fun e w' => ∃ v0_ : Value, e = .returned (v0_) ∧ Kd.R (Kd.int .i64) 3 w' w.heap.size (fun _ => True) v0_ r ∧ Below w.heap.size w w' := by
 have HB := Q9a.mk (Below.refl w.heap.size w);have H : (if 0 ≤ a2 then (if (a2 : Int).toNat ≤ 35184372088832 then ((some (List.replicate (a2 : Int).toNat 0 : List Int)).bind fun y135 => (field_digitsOf.l0 k a0 a1 y135 (y135.length : Int) 0)) else (none)) else (none)) = some r := h;clear h;by_cases c4 : 0 ≤ a2
 ·rw [if_pos c4] at H;have c4b0 := eq_true c4;have c4b1 : decide (0 ≤ a2) = true := decide_eq_true c4;clear c4;by_cases c5 : (a2 : Int).toNat ≤ 35184372088832
  ·rw [if_pos c5] at H;have c5b0 := eq_true c5;have c5b1 : decide ((a2 : Int).toNat ≤ 35184372088832) = true := decide_eq_true c5;clear c5;obtain ⟨y135, hy135⟩ : ∃ y_ : List Int, y_ = (List.replicate (a2 : Int).toNat 0) := ⟨_, rfl⟩;replace H : (field_digitsOf.l0 k a0 a1 y135 (y135.length : Int) 0) = some r := by first | (rw [hy135]; with_reducible exact H) | (have H2_ := (Option.bind_some _ _).symm.trans H; rw [hy135]; with_reducible exact H2_) | (have H2_ := (Option.bind_some _ _).symm.trans H; with_reducible exact H2_) | with_reducible exact H | (rw [hy135]; exact H) | exact H
   have Ny135 := Q9a.mk hy135;clear hy135;have H' := Q9a.mk H;clear H;go_enter Try.func87, Try.ntmps87
   go_wp2_with (first | ((with_reducible refine gD (N := 10) rfl ?_); refine Kd.R_make (Kd.int .i64) _ 3 rfl (N := 10) rfl 22 _ _ rfl a2 rfl rfl Try.underlying22 (.int .i64 0) 8 info3 rfl (by decide) (by omega) 0 (ok := fun _ => True) (okp := fun _ => True) rfl (fun _ hk => hk) trivial (of_decide_eq_true (by first | (with_reducible assumption) | assumption)) (Nat.le_trans (Nat.mul_le_mul_right _ (of_decide_eq_true (by first | (with_reducible assumption) | assumption) : a2.toNat ≤ 35184372088832)) (by omega)) (Below.refl _ _) (Nat.le_refl _) ?_; intro v136 w6 ho7 hb hg_ hnew_; clear hg_ hnew_; (first | rw [← Ny135.out] at ho7 | (simp only [Int.reduceToNat] at ho7; rw [← Ny135.out] at ho7)); have n0_ := Q9a.mk (Kd.rL ho7 (bZ (bI HB.out))); have n1_ := Q9a.mk (bP (bI HB.out) hb); clear HB; have HO137 := n0_; have HB := n1_; clear n0_ n1_; clear hb ho7; obtain ⟨Ao8, co8, eo8⟩ := Kd.R_slice HO137.out; subst eo8))
   go_loopg [0, 13] k (fun kq v0 v13 w' => ∃ (x0_1 : Int) (x7_1 : List Int) (x13_1 : Int), v0 = .int .i64 x0_1 ∧ v13 = .int .i64 x13_1 ∧ Q9a (field_digitsOf.l0 kq x0_1 a1 x7_1 (y135.length : Int) x13_1 = some r) ∧ Q9a (kq ≤ k) ∧ Q9a (Kd.R (Kd.int .i64) 3 w' w.heap.size (fun _ => True) (.slice Ao8 y135.length co8) x7_1) ∧ Q9a (Below w.heap.size w w'))
   case atStart => exact ⟨(a0), (y135), (0), (by first | rfl | (simp; done) | (simp [*]; done)), (by first | rfl | (simp; done) | (simp [*]; done)), H', ⟨Nat.le_refl _⟩, ⟨rI HO137.out⟩, ⟨bI HB.out⟩⟩
   case round =>
    clear H';try clear p2
    try clear c4
    try clear c4b0
    try clear c4b1
    try clear c5
    try clear c5b0
    try clear c5b1
    try clear c8
    obtain ⟨x0_1, x7_1, x13_1, rfl, rfl, HA, HK1, HO_7, HB⟩ := hrel;have hl7_1 := (Kd.R_reads' HO_7.out).1;rw [hl7_1] at HO_7;(try simp only [hl7_1])
    cases gk with
    | zero => exact absurd HA.out (by simp [field_digitsOf.l0])
    | succ k1 =>
     have H := HA.out;clear HA;simp only [field_digitsOf.l0] at H;by_cases c9 : x13_1 < (y135.length : Int)
     ·rw [if_pos c9] at H;have c9b0 : decide (x13_1 < (y135.length : Int)) = true := decide_eq_true c9;(try (have c9b0h := c9b0; rw [hl7_1] at c9b0h))
      clear c9;by_cases c10 : a1 = 0
      ·rw [if_pos c10] at H;exact absurd H (by simp)
      rw [if_neg c10] at H;have c10b0 : (a1 == 0) = false := beq_eq_false_iff_ne.mpr c10;have c10b1 : (a1 != 0) = true := bne_iff_ne.mpr c10;by_cases c11 : 0 ≤ x13_1
      ·rw [if_pos c11] at H;have c11b0 : decide (0 ≤ x13_1) = true := decide_eq_true c11;clear c11;by_cases c12 : x13_1 < (x7_1.length : Int)
       ·rw [if_pos c12] at H;have c12b0 : decide (x13_1 < (x7_1.length : Int)) = true := decide_eq_true c12;(try (have c12b0h := c12b0; rw [hl7_1] at c12b0h))
        clear c12;obtain ⟨y138, hy138⟩ : ∃ y_ : List Int, y_ = (x7_1.set (x13_1 : Int).toNat (Int.tmod x0_1 a1)) := ⟨_, rfl⟩;replace H : (field_digitsOf.l0 k1 (wrap64 (Int.tdiv x0_1 a1)) a1 y138 (y135.length : Int) (wrap64 (x13_1 + 1))) = some r := by first | (rw [hy138]; with_reducible exact H) | (have H2_ := (Option.bind_some _ _).symm.trans H; rw [hy138]; with_reducible exact H2_) | (have H2_ := (Option.bind_some _ _).symm.trans H; with_reducible exact H2_) | with_reducible exact H | (rw [hy138]; exact H) | exact H
        have Ny138 := Q9a.mk hy138;clear hy138;have H' := Q9a.mk H;clear H;have p13 : 0 ≤ (x13_1 : Int) := of_decide_eq_true (by first | (with_reducible assumption) | assumption);have q13 : (x13_1 : Int) < ((x7_1.length : Int) : Int) := of_decide_eq_true (by first | (with_reducible assumption) | assumption);obtain ⟨go13, co13, eo13, gb13, gl13, cl13, HG13⟩ := Kd.R_form HO_7.out (by omega);(first | cases eo13 | (injection eo13 with ea_ en_ ec_; (first | subst ea_ | (injection ea_ with ea_; subst ea_)); subst ec_; clear en_))
        have GB13 := Q9a.mk gb13;have GG13 := Q9a.mk HG13;clear gb13 gl13 HG13;obtain ⟨hx13_0, hf13_0⟩ := Kd.R_celln 0 HO_7.out (x13_1 : Int) p13 q13;replace p13 := eq_true p13;replace q13 := eq_true q13;have HP14 := Kd.R_putg HO_7.out (x13_1 : Int) (Int.tmod x0_1 a1);go_wp2_with (first | ((with_reducible refine gate_store (t := 3) (p := 21) rfl ?_); refine store_event (t := 3) (p := 21) (v := ?vo_w15) (w1 := (wr.setCell ⟨go13, (x13_1 : Int).toNat, none⟩ (.int .i64 (Int.tmod x0_1 a1)))) ?hg ?ho ?hn ?hr ?_; (case ho => rfl); (case hg => rfl); (case hn => rfl); (case hr => first | (go_simp; done) | (go_simp; rfl)); intro w15 hw; have hg : wr.grownBy w15 (some go13) := (by rw [hw]; exact HP14.2); have hp_ : Kd.R (Kd.int .i64) 3 w15 w.heap.size (fun _ => True) (.slice (some ⟨go13, 0, none⟩) x7_1.length co8) y138 := (by rw [hw, Ny138.out]; exact HP14.1); clear HP14; have n0_ := Q9a.mk (hp_); have n1_ := Q9a.mk ((by rw [hw]; exact bS (HB.out) GB13.out : Below w.heap.size w w15)); clear HO_7; clear HB; have HO_7 := n0_; have HB := n1_; clear n0_ n1_; clear hg hw hp_))
        (try simp only [← hl7_1])
        go_roundg k1
        case measure => have := HK1.out; omega
        case rel => exact ⟨(wrap64 (Int.tdiv x0_1 a1)), (y138), (wrap64 (x13_1 + 1)), (by first | rfl | (simp; done) | (simp [*]; done)), (by first | rfl | (simp; done) | (simp [*]; done)), H', ⟨by have := HK1.out; omega⟩, ⟨by (try simp only [hl7_1]); (with_reducible repeat (first | apply Kd.rA | apply Kd.rN | apply Kd.rD)); exact HO_7.out⟩, ⟨bI HB.out⟩⟩
       rw [if_neg c12] at H;exact absurd H (by simp)
      rw [if_neg c11] at H;exact absurd H (by simp)
     rw [if_neg c9] at H;have c9b0 : decide (x13_1 < (y135.length : Int)) = false := decide_eq_false c9;(try (have c9b0h := c9b0; rw [hl7_1] at c9b0h))
     clear c9;obtain rfl := Option.some.inj H;go_wp2
     go_ret
     exact ⟨_, by first | rfl | (simp [*, eN, eS] <;> rfl), rI HO_7.out, bI HB.out⟩
  rw [if_neg c5] at H;exact absurd H (by simp)
 rw [if_neg c4] at H;exact absurd H (by simp)
def field_valueOf.l0 : Nat → List Int → Int → Int → Int → Option (Int)
 | 0, _, _, _, _ => none
 | k + 1, x0, x1, x5, x6 => if x6 ≥ 0 then (if 0 ≤ x6 then (if x6 < (x0.length : Int) then (field_valueOf.l0 k x0 x1 (wrap64 ((wrap64 (x5 * x1)) + (rd x0 x6))) (wrap64 (x6 - 1))) else (none)) else (none)) else (some x5)
def field_valueOf.f (k : Nat) (l0 : List Int) (a1 : Int) : Option (Int) := field_valueOf.l0 k l0 a1 0 (wrap64 ((l0.length : Int) - 1))
theorem field_valueOf.calls (k : Nat) (A0 : Option Addr) (c0 : Nat) (l0 : List Int) (a1 : Int) (r : Int) (w : World) (hr0 : Kd.C (Kd.int .i64) w A0 l0.length l0) (hc0 : l0.length ≤ c0) (h : field_valueOf.f k l0 a1 = some r) :
  Calls Try.prog 96 #[.slice A0 l0.length c0, .int .i64 a1] w fun e w' => e = .returned (.int .i64 r) ∧ Drawn0 w w' := by
 have HR0 := Q9a.mk hr0;have HC0 := Q9a.mk hc0;clear hr0 hc0;have H : (field_valueOf.l0 k l0 a1 0 (wrap64 ((l0.length : Int) - 1))) = some r := h;clear h;have H' := Q9a.mk H;clear H;go_enter Try.func96, Try.ntmps96
 go_wp2
 go_loopg [5, 6] k (fun kq v5 v6 w' => ∃ (x5_1 : Int) (x6_1 : Int), v5 = .int .i64 x5_1 ∧ v6 = .int .i64 x6_1 ∧ Q9a (field_valueOf.l0 kq l0 a1 x5_1 x6_1 = some r) ∧ Q9a (kq ≤ k) ∧ Drawn0 w w')
 case atStart => exact ⟨(0), (wrap64 ((l0.length : Int) - 1)), (by first | rfl | (simp; done) | (simp [*]; done)), (by first | rfl | (simp; done) | (simp [*]; done)), H', ⟨Nat.le_refl _⟩, by repeat (first | exact Drawn0.refl _ | apply Drawn0.step)⟩
 case round =>
  clear H';try clear p2
  obtain ⟨x5_1, x6_1, rfl, rfl, HA, HK1, ⟨m1, rfl⟩⟩ := hrel
  cases gk with
  | zero => exact absurd HA.out (by simp [field_valueOf.l0])
  | succ k1 =>
   have H := HA.out;clear HA;simp only [field_valueOf.l0] at H;by_cases c3 : x6_1 ≥ 0
   ·rw [if_pos c3] at H;have c3b0 : decide (0 ≤ x6_1) = true := decide_eq_true c3;clear c3;by_cases c4 : 0 ≤ x6_1
    ·rw [if_pos c4] at H;have c4b0 : decide (0 ≤ x6_1) = true := decide_eq_true c4;clear c4;by_cases c5 : x6_1 < (l0.length : Int)
     ·rw [if_pos c5] at H;have c5b0 : decide (x6_1 < (l0.length : Int)) = true := decide_eq_true c5;clear c5;have H' := Q9a.mk H;clear H;have p139 : 0 ≤ (x6_1 : Int) := of_decide_eq_true (by first | (with_reducible assumption) | assumption);have q139 : x6_1 < (l0.length : Int) := of_decide_eq_true (by first | (with_reducible assumption) | assumption);obtain ⟨ad139, e139, hx139_0⟩ := Kd.at_int HR0.out x6_1 p139 q139
      cases e139
      replace p139 := eq_true p139;replace q139 := eq_true q139;go_wp2
      go_roundg k1
      case measure => have := HK1.out; omega
      case rel => exact ⟨(wrap64 ((wrap64 (x5_1 * a1)) + (rd l0 x6_1))), (wrap64 (x6_1 - 1)), (by first | rfl | (simp; done) | (simp [*]; done)), (by first | rfl | (simp; done) | (simp [*]; done)), H', ⟨by have := HK1.out; omega⟩, by repeat (first | exact Drawn0.refl _ | apply Drawn0.step)⟩
     rw [if_neg c5] at H;exact absurd H (by simp)
    rw [if_neg c4] at H;exact absurd H (by simp)
   rw [if_neg c3] at H;have c3b0 : decide (0 ≤ x6_1) = false := decide_eq_false c3;clear c3;obtain rfl := Option.some.inj H;go_wp2
   go_ret
   exact ⟨by first | rfl | (simp; done) | (simp [*]; done), by repeat (first | exact Drawn0.refl _ | apply Drawn0.step)⟩
def l7same.l0 : Nat → List Int → List Int → Int → Int → Option (Bool)
 | 0, _, _, _, _ => none
 | k + 1, x0, x1, x12, x13 => if x13 < x12 then (if 0 ≤ x13 then (if x13 < (x0.length : Int) then (if x13 < (x1.length : Int) then (if (rd x0 x13) = (rd x1 x13) then (l7same.l0 k x0 x1 x12 (wrap64 (x13 + 1))) else (some false)) else (none)) else (none)) else (none)) else (some true)
def l7same.f (k : Nat) (l0 : List Int) (l1 : List Int) : Option (Bool) := if (l0.length : Int) = (l1.length : Int) then (l7same.l0 k l0 l1 (l0.length : Int) 0) else (some false)
theorem l7same.calls (k : Nat) (A0 : Option Addr) (c0 : Nat) (l0 : List Int) (A1 : Option Addr) (c1 : Nat) (l1 : List Int) (r : Bool) (w : World) (hr0 : Kd.C (Kd.int .i64) w A0 l0.length l0) (hc0 : l0.length ≤ c0) (hr1 : Kd.C (Kd.int .i64) w A1 l1.length l1) (hc1 : l1.length ≤ c1) (h : l7same.f k l0 l1 = some r) :
  Calls Try.prog 18 #[.slice A0 l0.length c0, .slice A1 l1.length c1] w fun e w' => e = .returned (.bool r) ∧ Drawn0 w w' := by
 have HR0 := Q9a.mk hr0;have HC0 := Q9a.mk hc0;clear hr0 hc0;have HR1 := Q9a.mk hr1;have HC1 := Q9a.mk hc1;clear hr1 hc1;have H : (if (l0.length : Int) = (l1.length : Int) then (l7same.l0 k l0 l1 (l0.length : Int) 0) else (some false)) = some r := h;clear h;by_cases c3 : (l0.length : Int) = (l1.length : Int)
 ·rw [if_pos c3] at H;have c3b0 : ((l0.length : Int) == (l1.length : Int)) = true := beq_iff_eq.mpr c3;have c3b1 : ((l0.length : Int) != (l1.length : Int)) = false := bne_eq_false_iff_eq.mpr c3;have c3b2 : (l0.length == l1.length) = true := by first | simpa using c3 | (simp at c3 ⊢; omega)
  clear c3;have H' := Q9a.mk H;clear H;go_enter Try.func18, Try.ntmps18
  go_wp2
  repeat (go_quiet (fail); try go_wp2)
  go_loopg [13] k (fun kq v13 w' => ∃ (x13_1 : Int), v13 = .int .i64 x13_1 ∧ Q9a (l7same.l0 kq l0 l1 (l0.length : Int) x13_1 = some r) ∧ Q9a (kq ≤ k) ∧ Drawn0 w w')
  case atStart => exact ⟨(0), (by first | rfl | (simp; done) | (simp [*]; done)), H', ⟨Nat.le_refl _⟩, by repeat (first | exact Drawn0.refl _ | apply Drawn0.step)⟩
  case round =>
   clear H';try clear c1
   try clear p2
   try clear c3
   try clear c3b0
   try clear c3b1
   try clear c3b2
   obtain ⟨x13_1, rfl, HA, HK1, ⟨m1, rfl⟩⟩ := hrel
   cases gk with
   | zero => exact absurd HA.out (by simp [l7same.l0])
   | succ k1 =>
    have H := HA.out;clear HA;simp only [l7same.l0] at H;by_cases c4 : x13_1 < (l0.length : Int)
    ·rw [if_pos c4] at H;have c4b0 : decide (x13_1 < (l0.length : Int)) = true := decide_eq_true c4;clear c4;by_cases c5 : 0 ≤ x13_1
     ·rw [if_pos c5] at H;have c5b0 : decide (0 ≤ x13_1) = true := decide_eq_true c5;clear c5;by_cases c6 : x13_1 < (l0.length : Int)
      ·rw [if_pos c6] at H;have c6b0 : decide (x13_1 < (l0.length : Int)) = true := decide_eq_true c6;clear c6;by_cases c7 : x13_1 < (l1.length : Int)
       ·rw [if_pos c7] at H;have c7b0 : decide (x13_1 < (l1.length : Int)) = true := decide_eq_true c7;clear c7;by_cases c8 : (rd l0 x13_1) = (rd l1 x13_1)
        ·rw [if_pos c8] at H;have c8b0 : ((rd l0 x13_1) == (rd l1 x13_1)) = true := beq_iff_eq.mpr c8;have c8b1 : ((rd l0 x13_1) != (rd l1 x13_1)) = false := bne_eq_false_iff_eq.mpr c8;clear c8;have H' := Q9a.mk H;clear H;have p178 : 0 ≤ (x13_1 : Int) := of_decide_eq_true (by first | (with_reducible assumption) | assumption);have q178 : x13_1 < (l0.length : Int) := of_decide_eq_true (by first | (with_reducible assumption) | assumption);obtain ⟨ad178, e178, hx178_0⟩ := Kd.at_int HR0.out x13_1 p178 q178
         cases e178
         replace p178 := eq_true p178;replace q178 := eq_true q178;have p179 : 0 ≤ (x13_1 : Int) := of_decide_eq_true (by first | (with_reducible assumption) | assumption);have q179 : x13_1 < (l1.length : Int) := of_decide_eq_true (by first | (with_reducible assumption) | assumption);obtain ⟨ad179, e179, hx179_0⟩ := Kd.at_int HR1.out x13_1 p179 q179
         cases e179
         replace p179 := eq_true p179;replace q179 := eq_true q179;go_wp2
         repeat (go_quiet (fail); try go_wp2)
         go_roundg k1
         case measure => have := HK1.out; omega
         case rel => exact ⟨(wrap64 (x13_1 + 1)), (by first | rfl | (simp; done) | (simp [*]; done)), H', ⟨by have := HK1.out; omega⟩, by repeat (first | exact Drawn0.refl _ | apply Drawn0.step)⟩
        rw [if_neg c8] at H;have c8b0 : ((rd l0 x13_1) == (rd l1 x13_1)) = false := beq_eq_false_iff_ne.mpr c8;have c8b1 : ((rd l0 x13_1) != (rd l1 x13_1)) = true := bne_iff_ne.mpr c8;obtain rfl := Option.some.inj H;have p178 : 0 ≤ (x13_1 : Int) := of_decide_eq_true (by first | (with_reducible assumption) | assumption);have q178 : x13_1 < (l0.length : Int) := of_decide_eq_true (by first | (with_reducible assumption) | assumption);obtain ⟨ad178, e178, hx178_0⟩ := Kd.at_int HR0.out x13_1 p178 q178
        cases e178
        replace p178 := eq_true p178;replace q178 := eq_true q178;have p179 : 0 ≤ (x13_1 : Int) := of_decide_eq_true (by first | (with_reducible assumption) | assumption);have q179 : x13_1 < (l1.length : Int) := of_decide_eq_true (by first | (with_reducible assumption) | assumption);obtain ⟨ad179, e179, hx179_0⟩ := Kd.at_int HR1.out x13_1 p179 q179
        cases e179
        replace p179 := eq_true p179;replace q179 := eq_true q179;go_wp2
        repeat (go_quiet (fail); try go_wp2)
        go_ret
        exact ⟨by first | rfl | (simp; done) | (simp [*]; done), by repeat (first | exact Drawn0.refl _ | apply Drawn0.step)⟩
       rw [if_neg c7] at H;exact absurd H (by simp)
      rw [if_neg c6] at H;exact absurd H (by simp)
     rw [if_neg c5] at H;exact absurd H (by simp)
    rw [if_neg c4] at H;have c4b0 : decide (x13_1 < (l0.length : Int)) = false := decide_eq_false c4;clear c4;obtain rfl := Option.some.inj H;go_wp2
    repeat (go_quiet (fail); try go_wp2)
    go_ret
    exact ⟨by first | rfl | (simp; done) | (simp [*]; done), by repeat (first | exact Drawn0.refl _ | apply Drawn0.step)⟩
 rw [if_neg c3] at H;have c3b0 : ((l0.length : Int) == (l1.length : Int)) = false := beq_eq_false_iff_ne.mpr c3;have c3b1 : ((l0.length : Int) != (l1.length : Int)) = true := bne_iff_ne.mpr c3;have c3b2 : (l0.length == l1.length) = false := by first | simpa using c3 | (simp at c3 ⊢; omega)
 obtain rfl := Option.some.inj H;go_enter Try.func18, Try.ntmps18
 go_wp2
 repeat (go_quiet (fail); try go_wp2)
 go_ret
 exact ⟨by first | rfl | (simp; done) | (simp [*]; done), by repeat (first | exact Drawn0.refl _ | apply Drawn0.step)⟩
def r7Divides.f (a0_0 : Int) (a0_1 : Int) (l0_2 : List Int) (a1 : Int) : Option (Bool) := if a1 ≥ 1 then (if a1 ≤ a0_1 then (if a1 = 0 then (none) else (some ((Int.tmod a0_1 a1) == 0))) else (some false)) else (some false)
theorem r7Divides.calls (a0_0 : Int) (a0_1 : Int) (A0_2 : Option Addr) (c0_2 : Nat) (l0_2 : List Int) (a1 : Int) (r : Bool) (w : World) (hr0_2 : Kd.C (Kd.int .i64) w A0_2 l0_2.length l0_2) (hc0_2 : l0_2.length ≤ c0_2) (h : r7Divides.f a0_0 a0_1 l0_2 a1 = some r) :
  Calls Try.prog 13 #[.agg #[.int .i64 a0_0, .int .i64 a0_1, .slice A0_2 l0_2.length c0_2], .int .i64 a1] w fun e w' => e = .returned (.bool r) ∧ Below w.heap.size w w' := by
 have hu24 := Try.underlying24;have HR0_2 := Q9a.mk hr0_2;have HC0_2 := Q9a.mk hc0_2;clear hr0_2 hc0_2;have HB := Q9a.mk (Below.refl w.heap.size w);have H : (if a1 ≥ 1 then (if a1 ≤ a0_1 then (if a1 = 0 then (none) else (some ((Int.tmod a0_1 a1) == 0))) else (some false)) else (some false)) = some r := h;clear h;by_cases c3 : a1 ≥ 1
 ·rw [if_pos c3] at H;have c3b0 : decide (1 ≤ a1) = true := decide_eq_true c3;clear c3;by_cases c4 : a1 ≤ a0_1
  ·rw [if_pos c4] at H;have c4b0 : decide (a1 ≤ a0_1) = true := decide_eq_true c4;clear c4;by_cases c5 : a1 = 0
   ·rw [if_pos c5] at H;exact absurd H (by simp)
   rw [if_neg c5] at H;have c5b0 : (a1 == 0) = false := beq_eq_false_iff_ne.mpr c5;have c5b1 : (a1 != 0) = true := bne_iff_ne.mpr c5;obtain rfl := Option.some.inj H;go_enter Try.func13, Try.ntmps13
   go_wp2_with (first | ((with_reducible refine gD (N := 2) rfl ?_); refine bE ?hg (N := 2) ?hd (cs := #[.int .i64 a0_0, .int .i64 a0_1, .slice A0_2 l0_2.length c0_2]) (t := 24) ?hr ?_; (case hd => rfl); (case hg => rfl); (case hr => first | (go_simp; done) | (go_simp; rfl)); intro gb206 hg w6 hbox hb; have n0_ := Q9a.mk (bP (bI HB.out) hb); have n1_ := Q9a.mk (hbox); have n2_ := Q9a.mk ((by rw [hg]; exact (bZ (bI HB.out)) : w.heap.size ≤ gb206)); have n3_ := n2_; clear HB; have HB := n0_; have BK206 := n1_; have GW206 := n2_; have GE206 := n3_; clear n0_ n1_ n2_ n3_; clear hb hbox hg; have hcz7_0 : w6.cell? ⟨gb206, 0, none⟩ = some (.int .i64 a0_0) := (kC BK206.out 0).trans rfl; have hcz7_1 : w6.cell? ⟨gb206, 1, none⟩ = some (.int .i64 a0_1) := (kC BK206.out 1).trans rfl; have hcz7_2 : w6.cell? ⟨gb206, 2, none⟩ = some (.slice A0_2 l0_2.length c0_2) := (kC BK206.out 2).trans rfl; have hfz7_0 := kF BK206.out 0; have hfz7_1 := kF BK206.out 1; have hfz7_2 := kF BK206.out 2))
   go_ret
   exact ⟨by first | rfl | (simp [*, eN, eS] <;> rfl), bJ HB.out GE206.out⟩
  rw [if_neg c4] at H;have c4b0 : decide (a1 ≤ a0_1) = false := decide_eq_false c4;clear c4;obtain rfl := Option.some.inj H;go_enter Try.func13, Try.ntmps13
  go_wp2_with (first | ((with_reducible refine gD (N := 2) rfl ?_); refine bE ?hg (N := 2) ?hd (cs := #[.int .i64 a0_0, .int .i64 a0_1, .slice A0_2 l0_2.length c0_2]) (t := 24) ?hr ?_; (case hd => rfl); (case hg => rfl); (case hr => first | (go_simp; done) | (go_simp; rfl)); intro gb206 hg w8 hbox hb; have n0_ := Q9a.mk (bP (bI HB.out) hb); have n1_ := Q9a.mk (hbox); have n2_ := Q9a.mk ((by rw [hg]; exact (bZ (bI HB.out)) : w.heap.size ≤ gb206)); have n3_ := n2_; clear HB; have HB := n0_; have BK206 := n1_; have GW206 := n2_; have GE206 := n3_; clear n0_ n1_ n2_ n3_; clear hb hbox hg; have hcz9_0 : w8.cell? ⟨gb206, 0, none⟩ = some (.int .i64 a0_0) := (kC BK206.out 0).trans rfl; have hcz9_1 : w8.cell? ⟨gb206, 1, none⟩ = some (.int .i64 a0_1) := (kC BK206.out 1).trans rfl; have hcz9_2 : w8.cell? ⟨gb206, 2, none⟩ = some (.slice A0_2 l0_2.length c0_2) := (kC BK206.out 2).trans rfl; have hfz9_0 := kF BK206.out 0; have hfz9_1 := kF BK206.out 1; have hfz9_2 := kF BK206.out 2))
  go_ret
  exact ⟨by first | rfl | (simp [*, eN, eS] <;> rfl), bJ HB.out GE206.out⟩
 rw [if_neg c3] at H;have c3b0 : decide (1 ≤ a1) = false := decide_eq_false c3;clear c3;obtain rfl := Option.some.inj H;go_enter Try.func13, Try.ntmps13
 go_wp2_with (first | ((with_reducible refine gD (N := 2) rfl ?_); refine bE ?hg (N := 2) ?hd (cs := #[.int .i64 a0_0, .int .i64 a0_1, .slice A0_2 l0_2.length c0_2]) (t := 24) ?hr ?_; (case hd => rfl); (case hg => rfl); (case hr => first | (go_simp; done) | (go_simp; rfl)); intro gb206 hg w10 hbox hb; have n0_ := Q9a.mk (bP (bI HB.out) hb); have n1_ := Q9a.mk (hbox); have n2_ := Q9a.mk ((by rw [hg]; exact (bZ (bI HB.out)) : w.heap.size ≤ gb206)); have n3_ := n2_; clear HB; have HB := n0_; have BK206 := n1_; have GW206 := n2_; have GE206 := n3_; clear n0_ n1_ n2_ n3_; clear hb hbox hg))
 go_ret
 exact ⟨by first | rfl | (simp [*, eN, eS] <;> rfl), bJ HB.out GE206.out⟩
def r4Is.f (k : Nat) (a0_0 : Int) (a0_1 : Int) (l0_2 : List Int) (a1 : Int) : Option (Bool) := if a1 ≥ 0 then ((r4Order.f k a0_0 a0_1 l0_2).bind fun t208 => (some (decide (a1 < t208)))) else (some false)
theorem r4Is.calls (k : Nat) (a0_0 : Int) (a0_1 : Int) (A0_2 : Option Addr) (c0_2 : Nat) (l0_2 : List Int) (a1 : Int) (r : Bool) (w : World) (hr0_2 : Kd.C (Kd.int .i64) w A0_2 l0_2.length l0_2) (hc0_2 : l0_2.length ≤ c0_2) (h : r4Is.f k a0_0 a0_1 l0_2 a1 = some r) :
  Calls Try.prog 17 #[.agg #[.int .i64 a0_0, .int .i64 a0_1, .slice A0_2 l0_2.length c0_2], .int .i64 a1] w fun e w' => e = .returned (.bool r) ∧ Below w.heap.size w w' := by
 have hu24 := Try.underlying24;have HR0_2 := Q9a.mk hr0_2;have HC0_2 := Q9a.mk hc0_2;clear hr0_2 hc0_2;have HB := Q9a.mk (Below.refl w.heap.size w);have H : (if a1 ≥ 0 then ((r4Order.f k a0_0 a0_1 l0_2).bind fun t208 => (some (decide (a1 < t208)))) else (some false)) = some r := h;clear h;by_cases c3 : a1 ≥ 0
 ·rw [if_pos c3] at H;have c3b0 : decide (0 ≤ a1) = true := decide_eq_true c3;clear c3;replace H := Option.bind_eq_some_iff.mp H;obtain ⟨t208, A40, H⟩ := H;replace H : (some (decide (a1 < t208))) = some r := H;have A4 := Q9a.mk A40;clear A40;obtain rfl := Option.some.inj H;go_enter Try.func17, Try.ntmps17
  go_wp2_with (first | ((with_reducible refine gD (N := 2) rfl ?_); refine bE ?hg (N := 2) ?hd (cs := #[.int .i64 a0_0, .int .i64 a0_1, .slice A0_2 l0_2.length c0_2]) (t := 24) ?hr ?_; (case hd => rfl); (case hg => rfl); (case hr => first | (go_simp; done) | (go_simp; rfl)); intro gb207 hg w5 hbox hb; have n0_ := Q9a.mk (bP (bI HB.out) hb); have n1_ := Q9a.mk (hbox); have n2_ := Q9a.mk ((by rw [hg]; exact (bZ (bI HB.out)) : w.heap.size ≤ gb207)); have n3_ := n2_; clear HB; have HB := n0_; have BK207 := n1_; have GW207 := n2_; have GE207 := n3_; clear n0_ n1_ n2_ n3_; clear hb hbox hg; have hcz6_0 : w5.cell? ⟨gb207, 0, none⟩ = some (.int .i64 a0_0) := (kC BK207.out 0).trans rfl; have hcz6_1 : w5.cell? ⟨gb207, 1, none⟩ = some (.int .i64 a0_1) := (kC BK207.out 1).trans rfl; have hcz6_2 : w5.cell? ⟨gb207, 2, none⟩ = some (.slice A0_2 l0_2.length c0_2) := (kC BK207.out 2).trans rfl; have hfz6_0 := kF BK207.out 0; have hfz6_1 := kF BK207.out 1; have hfz6_2 := kF BK207.out 2) | (go_at_call 29; (with_reducible refine (r4Order.calls k a0_0 a0_1 _ _ l0_2 t208 _ ?side1 ?side2 A4.out).mono ?_); (case side1 => exact cI HR0_2.out HB.out); (case side2 => exact HC0_2.out); rintro e w7 ⟨rfl, hb⟩; have n0_ := Q9a.mk (kB (g := gb207) (o := .cells #[.int .i64 a0_0, .int .i64 a0_1, .slice A0_2 l0_2.length c0_2] 24 (0, 0)) (kI BK207.out) hb); have n1_ := Q9a.mk (bP (bJ HB.out GE207.out) hb); clear BK207; clear HB; have BK207 := n0_; have HB := n1_; clear n0_ n1_; (try clear hb); (try clear hb2); (try clear hk); (try clear hi)))
  go_ret
  exact ⟨by first | rfl | (simp [*, eN, eS] <;> rfl), bJ HB.out GE207.out⟩
 rw [if_neg c3] at H;have c3b0 : decide (0 ≤ a1) = false := decide_eq_false c3;clear c3;obtain rfl := Option.some.inj H;go_enter Try.func17, Try.ntmps17
 go_wp2_with (first | ((with_reducible refine gD (N := 2) rfl ?_); refine bE ?hg (N := 2) ?hd (cs := #[.int .i64 a0_0, .int .i64 a0_1, .slice A0_2 l0_2.length c0_2]) (t := 24) ?hr ?_; (case hd => rfl); (case hg => rfl); (case hr => first | (go_simp; done) | (go_simp; rfl)); intro gb207 hg w8 hbox hb; have n0_ := Q9a.mk (bP (bI HB.out) hb); have n1_ := Q9a.mk (hbox); have n2_ := Q9a.mk ((by rw [hg]; exact (bZ (bI HB.out)) : w.heap.size ≤ gb207)); have n3_ := n2_; clear HB; have HB := n0_; have BK207 := n1_; have GW207 := n2_; have GE207 := n3_; clear n0_ n1_ n2_ n3_; clear hb hbox hg))
 go_ret
 exact ⟨by first | rfl | (simp [*, eN, eS] <;> rfl), bJ HB.out GE207.out⟩
def r4In.f (k : Nat) (a0_0 : Int) (a0_1 : Int) (l0_2 : List Int) (a1 : Int) : Option (Int) := (r4Is.f k a0_0 a0_1 l0_2 a1).bind fun t210 => (if t210 = true then (some a1) else (some 0))
theorem r4In.calls (k : Nat) (a0_0 : Int) (a0_1 : Int) (A0_2 : Option Addr) (c0_2 : Nat) (l0_2 : List Int) (a1 : Int) (r : Int) (w : World) (hr0_2 : Kd.C (Kd.int .i64) w A0_2 l0_2.length l0_2) (hc0_2 : l0_2.length ≤ c0_2) (h : r4In.f k a0_0 a0_1 l0_2 a1 = some r) :
  Calls Try.prog 30 #[.agg #[.int .i64 a0_0, .int .i64 a0_1, .slice A0_2 l0_2.length c0_2], .int .i64 a1] w fun e w' => e = .returned (.int .i64 r) ∧ Below w.heap.size w w' := by
 have hu24 := Try.underlying24;have HR0_2 := Q9a.mk hr0_2;have HC0_2 := Q9a.mk hc0_2;clear hr0_2 hc0_2;have HB := Q9a.mk (Below.refl w.heap.size w);have H : ((r4Is.f k a0_0 a0_1 l0_2 a1).bind fun t210 => (if t210 = true then (some a1) else (some 0))) = some r := h;clear h;replace H := Option.bind_eq_some_iff.mp H;obtain ⟨t210, A30, H⟩ := H;replace H : (if t210 = true then (some a1) else (some 0)) = some r := H;have A3 := Q9a.mk A30;clear A30;by_cases c4 : t210 = true
 ·subst c4;have H1 : (some a1) = some r := by rw [if_pos rfl] at H; exact H
  clear H;have H := H1;clear H1;obtain rfl := Option.some.inj H;go_enter Try.func30, Try.ntmps30
  go_wp2_with (first | ((with_reducible refine gD (N := 2) rfl ?_); refine bE ?hg (N := 2) ?hd (cs := #[.int .i64 a0_0, .int .i64 a0_1, .slice A0_2 l0_2.length c0_2]) (t := 24) ?hr ?_; (case hd => rfl); (case hg => rfl); (case hr => first | (go_simp; done) | (go_simp; rfl)); intro gb209 hg w5 hbox hb; have n0_ := Q9a.mk (bP (bI HB.out) hb); have n1_ := Q9a.mk (hbox); have n2_ := Q9a.mk ((by rw [hg]; exact (bZ (bI HB.out)) : w.heap.size ≤ gb209)); have n3_ := n2_; clear HB; have HB := n0_; have BK209 := n1_; have GW209 := n2_; have GE209 := n3_; clear n0_ n1_ n2_ n3_; clear hb hbox hg; have hcz6_0 : w5.cell? ⟨gb209, 0, none⟩ = some (.int .i64 a0_0) := (kC BK209.out 0).trans rfl; have hcz6_1 : w5.cell? ⟨gb209, 1, none⟩ = some (.int .i64 a0_1) := (kC BK209.out 1).trans rfl; have hcz6_2 : w5.cell? ⟨gb209, 2, none⟩ = some (.slice A0_2 l0_2.length c0_2) := (kC BK209.out 2).trans rfl; have hfz6_0 := kF BK209.out 0; have hfz6_1 := kF BK209.out 1; have hfz6_2 := kF BK209.out 2) | ((with_reducible refine gC (f := 17) rfl ?_); refine gL (some 7) rfl rfl Try.func17 (by kernel_rfl) rfl #[.agg #[.int .i64 a0_0, .int .i64 a0_1, .slice A0_2 l0_2.length c0_2], .int .i64 a1] rfl (by (try simp only [sm1, sm2, sm3]); first | done | rfl | (simp only [sm4, sm5]; rfl)) ?_; (with_reducible refine (r4Is.calls k a0_0 a0_1 _ _ l0_2 a1 true _ ?side1 ?side2 A3.out).mono ?_); (case side1 => exact cI HR0_2.out HB.out); (case side2 => exact HC0_2.out); rintro e w7 ⟨rfl, hb⟩; refine ⟨_, rfl, ?_⟩; have n0_ := Q9a.mk (kB (g := gb209) (o := .cells #[.int .i64 a0_0, .int .i64 a0_1, .slice A0_2 l0_2.length c0_2] 24 (0, 0)) (kI BK209.out) hb); have n1_ := Q9a.mk (bP (bJ HB.out GE209.out) hb); clear BK209; clear HB; have BK209 := n0_; have HB := n1_; clear n0_ n1_; (try clear hb); (try clear hb2); (try clear hk); (try clear hi)))
  go_ret
  exact ⟨by first | rfl | (simp [*, eN, eS] <;> rfl), bJ HB.out GE209.out⟩
 replace c4 := Bool.eq_false_iff.mpr c4;subst c4;have H1 : (some 0) = some r := by rw [if_neg (show ¬ (false = true) by decide)] at H; exact H
 clear H;have H := H1;clear H1;obtain rfl := Option.some.inj H;go_enter Try.func30, Try.ntmps30
 go_wp2_with (first | ((with_reducible refine gD (N := 2) rfl ?_); refine bE ?hg (N := 2) ?hd (cs := #[.int .i64 a0_0, .int .i64 a0_1, .slice A0_2 l0_2.length c0_2]) (t := 24) ?hr ?_; (case hd => rfl); (case hg => rfl); (case hr => first | (go_simp; done) | (go_simp; rfl)); intro gb209 hg w8 hbox hb; have n0_ := Q9a.mk (bP (bI HB.out) hb); have n1_ := Q9a.mk (hbox); have n2_ := Q9a.mk ((by rw [hg]; exact (bZ (bI HB.out)) : w.heap.size ≤ gb209)); have n3_ := n2_; clear HB; have HB := n0_; have BK209 := n1_; have GW209 := n2_; have GE209 := n3_; clear n0_ n1_ n2_ n3_; clear hb hbox hg; have hcz9_0 : w8.cell? ⟨gb209, 0, none⟩ = some (.int .i64 a0_0) := (kC BK209.out 0).trans rfl; have hcz9_1 : w8.cell? ⟨gb209, 1, none⟩ = some (.int .i64 a0_1) := (kC BK209.out 1).trans rfl; have hcz9_2 : w8.cell? ⟨gb209, 2, none⟩ = some (.slice A0_2 l0_2.length c0_2) := (kC BK209.out 2).trans rfl; have hfz9_0 := kF BK209.out 0; have hfz9_1 := kF BK209.out 1; have hfz9_2 := kF BK209.out 2) | ((with_reducible refine gC (f := 17) rfl ?_); refine gL (some 7) rfl rfl Try.func17 (by kernel_rfl) rfl #[.agg #[.int .i64 a0_0, .int .i64 a0_1, .slice A0_2 l0_2.length c0_2], .int .i64 a1] rfl (by (try simp only [sm1, sm2, sm3]); first | done | rfl | (simp only [sm4, sm5]; rfl)) ?_; (with_reducible refine (r4Is.calls k a0_0 a0_1 _ _ l0_2 a1 false _ ?side1 ?side2 A3.out).mono ?_); (case side1 => exact cI HR0_2.out HB.out); (case side2 => exact HC0_2.out); rintro e w10 ⟨rfl, hb⟩; refine ⟨_, rfl, ?_⟩; have n0_ := Q9a.mk (kB (g := gb209) (o := .cells #[.int .i64 a0_0, .int .i64 a0_1, .slice A0_2 l0_2.length c0_2] 24 (0, 0)) (kI BK209.out) hb); have n1_ := Q9a.mk (bP (bJ HB.out GE209.out) hb); clear BK209; clear HB; have BK209 := n0_; have HB := n1_; clear n0_ n1_; (try clear hb); (try clear hb2); (try clear hk); (try clear hi)))
 go_ret
 exact ⟨by first | rfl | (simp [*, eN, eS] <;> rfl), bJ HB.out GE209.out⟩
def r4Digits.f (k : Nat) (a0_0 : Int) (a0_1 : Int) (l0_2 : List Int) (a1 : Int) : Option (List Int) := (r4In.f k a0_0 a0_1 l0_2 a1).bind fun t212 => ((r4digits.f k t212 a0_0 a0_1).bind fun t213 => (some t213))
def r4Digits.T1 : Bool × List (List Nat × List Nat) := (true, [([], []), ([], []), ([0, 1], [0, 1]), ([], []), ([3], [3]), ([], []), ([5], [5]), ([2, 4, 6, 2], [2, 4, 6]), ([7, 7, 0, 1, 2, 3, 4, 5, 6, 7], [7])])
def r4Digits.B1 : List Nat := [0, 0, 3, 0, 8, 0, 32, 127, 255]
theorem r4Digits.tab1 : rtab .any (opsOf Try.f44 1) = r4Digits.T1 := by kernel_rfl
theorem r4Digits.bits1 : waitsOk r4Digits.T1.2 r4Digits.B1 = true := by kernel_rfl
theorem r4Digits.calls (k : Nat) (a0_0 : Int) (a0_1 : Int) (A0_2 : Option Addr) (c0_2 : Nat) (l0_2 : List Int) (a1 : Int) (r : List Int) (w : World) (hr0_2 : Kd.C (Kd.int .i64) w A0_2 l0_2.length l0_2) (hc0_2 : l0_2.length ≤ c0_2) (h : r4Digits.f k a0_0 a0_1 l0_2 a1 = some r) :
  Calls Try.prog 44 #[.agg #[.int .i64 a0_0, .int .i64 a0_1, .slice A0_2 l0_2.length c0_2], .int .i64 a1] w fun e w' => ∃ v0_ : Value, e = .returned (v0_) ∧ Kd.R (Kd.int .i64) 3 w' w.heap.size (fun _ => True) v0_ r ∧ Below w.heap.size w w' := by
 have hu24 := Try.underlying24;have HR0_2 := Q9a.mk hr0_2;have HC0_2 := Q9a.mk hc0_2;clear hr0_2 hc0_2;have HB := Q9a.mk (Below.refl w.heap.size w);have H : ((r4In.f k a0_0 a0_1 l0_2 a1).bind fun t212 => ((r4digits.f k t212 a0_0 a0_1).bind fun t213 => (some t213))) = some r := h;clear h;replace H := Option.bind_eq_some_iff.mp H;obtain ⟨t212, A30, H⟩ := H;replace H : ((r4digits.f k t212 a0_0 a0_1).bind fun t213 => (some t213)) = some r := H;have A3 := Q9a.mk A30;clear A30;replace H := Option.bind_eq_some_iff.mp H;obtain ⟨t213, A40, H⟩ := H;replace H : (some t213) = some r := H;have A4 := Q9a.mk A40;clear A40;obtain rfl := Option.some.inj H;go_enter Try.func44, Try.ntmps44
 try go_wp2_with (first | ((with_reducible refine gD (N := 2) rfl ?_); refine bE ?hg (N := 2) ?hd (cs := #[.int .i64 a0_0, .int .i64 a0_1, .slice A0_2 l0_2.length c0_2]) (t := 24) ?hr ?_; (case hd => rfl); (case hg => rfl); (case hr => first | (go_simp; done) | (go_simp; rfl)); intro gb211 hg w5 hbox hb; have n0_ := Q9a.mk (bP (bI HB.out) hb); have n1_ := Q9a.mk (hbox); have n2_ := Q9a.mk ((by rw [hg]; exact (bZ (bI HB.out)) : w.heap.size ≤ gb211)); have n3_ := n2_; clear HB; have HB := n0_; have BK211 := n1_; have GW211 := n2_; have GE211 := n3_; clear n0_ n1_ n2_ n3_; clear hb hbox hg))
 have n0_ := Q9a.mk (kD BK211.out);have n1_ := Q9a.mk (bD HB.out);clear BK211;clear HB;have BK211 := n0_;have HB := n1_;clear n0_ n1_;refine start_ (n := 9) (S := fun w' => w'.cell? ⟨gb211, 0, none⟩ = some (.int .i64 a0_0) ∧ w'.cell? ⟨gb211, 1, none⟩ = some (.int .i64 a0_1) ∧ w'.cell? ⟨gb211, 2, none⟩ = some (.slice A0_2 l0_2.length c0_2)) (ds := []) #[fB,fB,fB,fB,fB,fB,fB,fB,fB] (by kernel_rfl) rfl rfl ⟨(kC BK211.out 0).trans rfl, (kC BK211.out 1).trans rfl, (kC BK211.out 2).trans rfl⟩ (fun hHeld => ?_); refine with_tabW r4Digits.tab1 r4Digits.bits1 (fun HT_ HW_ => ?_);generalize w5.drew = w6 at BK211 HB hHeld ⊢;refine pT 1 6 rfl HT_.out ?_;refine pT 3 8 rfl HT_.out ?_;refine pT 5 10 rfl HT_.out ?_;refine tT 0 5 rfl HT_.out HW_.out hHeld ?_;refine tT 4 9 rfl HT_.out HW_.out hHeld ?_;refine tT 6 11 rfl HT_.out HW_.out hHeld ?_;refine oT 2 7 rfl HT_.out (fun K hK => ?_);refine goes_ Try.func30 (by kernel_rfl) rfl #[.agg #[.int .i64 a0_0, .int .i64 a0_1, .slice A0_2 l0_2.length c0_2], .int .i64 a1] (by rfl) rfl rfl (by (try simp only [sm1, sm2, sm3]); first | done | rfl | (simp only [sm4, sm5]; rfl)) ?_;with_reducible refine (r4In.calls k a0_0 a0_1 _ _ l0_2 a1 t212 _ ?side1 ?side2 A3.out).mono ?_
 (case side1 => exact cI HR0_2.out HB.out)
 (case side2 => exact HC0_2.out)
 rintro e w7 ⟨rfl, hb⟩;refine ⟨_, rfl, ?_⟩;have n0_ := Q9a.mk (kB (g := gb211) (o := .cells #[.int .i64 a0_0, .int .i64 a0_1, .slice A0_2 l0_2.length c0_2] 24 (0, 0)) (kI BK211.out) hb);have n1_ := Q9a.mk (bP (bJ HB.out GE211.out) hb);clear BK211;clear HB;have BK211 := n0_;have HB := n1_;clear n0_ n1_;refine hK.out _ _ ⟨(kC BK211.out 0).trans rfl, (kC BK211.out 1).trans rfl, (kC BK211.out 2).trans rfl⟩ (fun hHeld => ?_);clear hK K;refine norm_ (a' := ?_) ?_ ?_;rotate_left
 ·show Act.put _ (some 7) _ = _
  simp only [Act.put, sz1, sz2, sz3, i64_w, i32_w];rfl
 refine oT 7 12 rfl HT_.out (fun K hK => ?_);refine goes_ Try.func72 (by kernel_rfl) rfl #[.int .i64 t212, .int .i64 a0_0, .int .i64 a0_1] (by rfl) rfl rfl (by (try simp only [sm1, sm2, sm3]); first | done | rfl | (simp only [sm4, sm5]; rfl)) ?_;with_reducible refine (r4digits.calls k t212 a0_0 a0_1 t213 _ A4.out).mono ?_
 rintro e w8 ⟨v214, rfl, ho0, hb⟩;refine ⟨_, rfl, ?_⟩;have n0_ := Q9a.mk (Kd.rL ho0 (bZ (bJ HB.out GE211.out)));have n1_ := Q9a.mk (kB (g := gb211) (o := .cells #[.int .i64 a0_0, .int .i64 a0_1, .slice A0_2 l0_2.length c0_2] 24 (0, 0)) (kI BK211.out) hb);have n2_ := Q9a.mk (bP (bJ HB.out GE211.out) hb);clear BK211;clear HB;have HO215 := n0_;have BK211 := n1_;have HB := n2_;clear n0_ n1_ n2_;(try clear ho0)
 refine hK.out _ _ ⟨(kC BK211.out 0).trans rfl, (kC BK211.out 1).trans rfl, (kC BK211.out 2).trans rfl⟩ (fun hHeld => ?_);clear hK K;refine norm_ (a' := ?_) ?_ ?_;rotate_left
 ·show Act.put _ (some 12) _ = _
  simp only [Act.put, sz1, sz2, sz3, i64_w, i32_w];rfl
 refine pT 8 4 rfl HT_.out ?_;refine done_ (done_of HT_.out (by kernel_rfl)) ?_;try go_wp2
 go_ret
 exact ⟨_, by first | rfl | (simp [*, eN, eS] <;> rfl), rI HO215.out, bJ HB.out GE211.out⟩
end
end Go.Proofs.Ytlbddjojhcgpiaa.P
end
-- Gs0
section
namespace Go.Proofs.Ytlbddjojhcgpiaa.GS
noncomputable section
open Go.RowKit Go.Proofs.Ytlbddjojhcgpiaa.Hand Go.Proofs.YtlbddjojhcgpiaaW.PrintWords Go.Proofs.YtlbddjojhcgpiaaW.PrintLast Go.Proofs.YtlbddjojhcgpiaaW.PrintMore
set_option linter.unusedVariables false
set_option linter.unusedSimpArgs false
def errW : Option Int → Value
 | none => .nilIface
 | some c => .iface 0 (.int .i64 c)
theorem eN : errW none = .nilIface := rfl
theorem eS (c : Int) : errW (some c) = .iface 0 (.int .i64 c) := rfl
end
end Go.Proofs.Ytlbddjojhcgpiaa.GS
end
-- Gs1
section
namespace Go.Proofs.Ytlbddjojhcgpiaa.GS
noncomputable section
open Go.RowKit Go.Proofs.Ytlbddjojhcgpiaa.Hand Go.Proofs.YtlbddjojhcgpiaaW.PrintWords Go.Proofs.YtlbddjojhcgpiaaW.PrintLast Go.Proofs.YtlbddjojhcgpiaaW.PrintMore
set_option linter.unusedVariables false
set_option linter.unusedSimpArgs false
def IsS90 (w0 W : World) (g : Nat) (f0 : Int) (f1 : Int) (f2 : List Int) (f3 : Int) (f4 : List Int) (f5 : List Int) : Prop := ∃ A2 c2, ∃ A4 c4, ∃ A5 c5, W.heap[g]? = some (.cells #[.int .i64 f0, .int .i64 f1, .slice A2 f2.length c2, .int .i64 f3, .slice A4 f4.length c4, .slice A5 f5.length c5] 90 (0, 0)) ∧ True ∧ Kd.C (Kd.int .i64) w0 A2 f2.length f2 ∧ Kd.C (Kd.int .i64) w0 A4 f4.length f4 ∧ Kd.C (Kd.int .i64) w0 A5 f5.length f5
theorem IsS90.drewN {w0 W : World} {g : Nat} {f0 : Int} {f1 : Int} {f2 : List Int} {f3 : Int} {f4 : List Int} {f5 : List Int} (h : IsS90 w0 W g f0 f1 f2 f3 f4 f5) (m : Nat) : IsS90 w0 (W.drewN m) g f0 f1 f2 f3 f4 f5 := h
theorem cellS90_0 {W : World} {g : Nat} {A2 : Option Addr} {c2 : Nat} {A4 : Option Addr} {c4 : Nat} {A5 : Option Addr} {c5 : Nat} {f0 : Int} {f1 : Int} {f2 : List Int} {f3 : Int} {f4 : List Int} {f5 : List Int} (h : W.heap[g]? = some (.cells #[.int .i64 f0, .int .i64 f1, .slice A2 f2.length c2, .int .i64 f3, .slice A4 f4.length c4, .slice A5 f5.length c5] 90 (0, 0))) : W.cell? ⟨g, 0, none⟩ = some (.int .i64 f0) := (kC h 0).trans rfl
theorem cellS90_1 {W : World} {g : Nat} {A2 : Option Addr} {c2 : Nat} {A4 : Option Addr} {c4 : Nat} {A5 : Option Addr} {c5 : Nat} {f0 : Int} {f1 : Int} {f2 : List Int} {f3 : Int} {f4 : List Int} {f5 : List Int} (h : W.heap[g]? = some (.cells #[.int .i64 f0, .int .i64 f1, .slice A2 f2.length c2, .int .i64 f3, .slice A4 f4.length c4, .slice A5 f5.length c5] 90 (0, 0))) : W.cell? ⟨g, 1, none⟩ = some (.int .i64 f1) := (kC h 1).trans rfl
theorem cellS90_2 {W : World} {g : Nat} {A2 : Option Addr} {c2 : Nat} {A4 : Option Addr} {c4 : Nat} {A5 : Option Addr} {c5 : Nat} {f0 : Int} {f1 : Int} {f2 : List Int} {f3 : Int} {f4 : List Int} {f5 : List Int} (h : W.heap[g]? = some (.cells #[.int .i64 f0, .int .i64 f1, .slice A2 f2.length c2, .int .i64 f3, .slice A4 f4.length c4, .slice A5 f5.length c5] 90 (0, 0))) : W.cell? ⟨g, 2, none⟩ = some (.slice A2 f2.length c2) := (kC h 2).trans rfl
theorem cellS90_3 {W : World} {g : Nat} {A2 : Option Addr} {c2 : Nat} {A4 : Option Addr} {c4 : Nat} {A5 : Option Addr} {c5 : Nat} {f0 : Int} {f1 : Int} {f2 : List Int} {f3 : Int} {f4 : List Int} {f5 : List Int} (h : W.heap[g]? = some (.cells #[.int .i64 f0, .int .i64 f1, .slice A2 f2.length c2, .int .i64 f3, .slice A4 f4.length c4, .slice A5 f5.length c5] 90 (0, 0))) : W.cell? ⟨g, 3, none⟩ = some (.int .i64 f3) := (kC h 3).trans rfl
theorem cellS90_4 {W : World} {g : Nat} {A2 : Option Addr} {c2 : Nat} {A4 : Option Addr} {c4 : Nat} {A5 : Option Addr} {c5 : Nat} {f0 : Int} {f1 : Int} {f2 : List Int} {f3 : Int} {f4 : List Int} {f5 : List Int} (h : W.heap[g]? = some (.cells #[.int .i64 f0, .int .i64 f1, .slice A2 f2.length c2, .int .i64 f3, .slice A4 f4.length c4, .slice A5 f5.length c5] 90 (0, 0))) : W.cell? ⟨g, 4, none⟩ = some (.slice A4 f4.length c4) := (kC h 4).trans rfl
theorem cellS90_5 {W : World} {g : Nat} {A2 : Option Addr} {c2 : Nat} {A4 : Option Addr} {c4 : Nat} {A5 : Option Addr} {c5 : Nat} {f0 : Int} {f1 : Int} {f2 : List Int} {f3 : Int} {f4 : List Int} {f5 : List Int} (h : W.heap[g]? = some (.cells #[.int .i64 f0, .int .i64 f1, .slice A2 f2.length c2, .int .i64 f3, .slice A4 f4.length c4, .slice A5 f5.length c5] 90 (0, 0))) : W.cell? ⟨g, 5, none⟩ = some (.slice A5 f5.length c5) := (kC h 5).trans rfl
def field_GF_Is.f (s0_0 : Int) (s0_1 : Int) (s0_2 : List Int) (s0_3 : Int) (s0_4 : List Int) (s0_5 : List Int) (a1 : Int) : Option (Bool × Int × Int × Int) := if a1 ≥ 0 then (some (decide (a1 < s0_3), s0_0, s0_1, s0_3)) else (some (false, s0_0, s0_1, s0_3))
theorem field_GF_Is.calls (g : Nat) (s0_0 : Int) (s0_1 : Int) (s0_2 : List Int) (s0_3 : Int) (s0_4 : List Int) (s0_5 : List Int) (a1 : Int) (r1 : Bool) (r2 : Int) (r3 : Int) (r4 : Int) (w0 w : World) (hI : IsS90 w0 w g s0_0 s0_1 s0_2 s0_3 s0_4 s0_5) (hB : Below w0.heap.size w0 w) (h : field_GF_Is.f s0_0 s0_1 s0_2 s0_3 s0_4 s0_5 a1 = some (r1, r2, r3, r4)) :
  Calls Try.prog 94 #[.pointer (some ⟨g, 0, none⟩), .int .i64 a1] w fun e w' => e = .returned (.bool r1) ∧ IsS90 w0 w' g r2 r3 s0_2 r4 s0_4 s0_5 ∧ Below w0.heap.size w0 w' ∧ KeepBut w w' g none := by
 have HI0 := Q9a.mk hI;have HK := Q9a.mk (KeepBut.refl w g none);have HL := Q9a.mk hB.size;clear hI;have HW0 := Q9a.mk hB.size;have HB := Q9a.mk hB;clear hB;have H : (if a1 ≥ 0 then (some (decide (a1 < s0_3), s0_0, s0_1, s0_3)) else (some (false, s0_0, s0_1, s0_3))) = some (r1, r2, r3, r4) := h;clear h;by_cases c3 : a1 ≥ 0
 ·rw [if_pos c3] at H;have c3b0 : decide (0 ≤ a1) = true := decide_eq_true c3;clear c3;simp only [Option.some.injEq, Prod.mk.injEq] at H;obtain ⟨rfl, rfl, rfl, rfl⟩ := H;obtain ⟨ASz4_2, cSz4_2, ASz4_4, cSz4_4, ASz4_5, cSz4_5, HGz4, hgz4, HSz4_2, HSz4_4, HSz4_5⟩ := HI0.out;have hcz4_0 := cellS90_0 HGz4;have hcz4_1 := cellS90_1 HGz4;have hcz4_2 := cellS90_2 HGz4;have hcz4_3 := cellS90_3 HGz4;have hcz4_4 := cellS90_4 HGz4;have hcz4_5 := cellS90_5 HGz4;have hfz4_0 := kF HGz4 0;have hfz4_1 := kF HGz4 1;have hfz4_3 := kF HGz4 3;clear HGz4 hgz4;go_enter Try.func94, Try.ntmps94
  go_wp2
  go_ret
  exact ⟨by first | rfl | (simp [*, eN, eS] <;> rfl), by repeat (first | (with_reducible first | exact HI0.out | apply IsS90.alloc | apply IsS90.drewN | apply IsS90.drew | apply IsS90.set_0 | apply IsS90.set_1 | apply IsS90.set_3) | exact HI0.out), by repeat (first | (with_reducible first | exact HB.out | apply bA | apply bN | apply bD | refine bS ?_ (IsS90.ge HI0.out)) | exact HB.out), by repeat (first | (with_reducible first | exact HK.out | apply KeepBut.set_ | apply keep_drewN | apply keep_drew | apply keep_alloc) | exact HK.out)⟩
 rw [if_neg c3] at H;have c3b0 : decide (0 ≤ a1) = false := decide_eq_false c3;clear c3;simp only [Option.some.injEq, Prod.mk.injEq] at H;obtain ⟨rfl, rfl, rfl, rfl⟩ := H;go_enter Try.func94, Try.ntmps94
 go_wp2
 go_ret
 exact ⟨by first | rfl | (simp [*, eN, eS] <;> rfl), by repeat (first | (with_reducible first | exact HI0.out | apply IsS90.alloc | apply IsS90.drewN | apply IsS90.drew | apply IsS90.set_0 | apply IsS90.set_1 | apply IsS90.set_3) | exact HI0.out), by repeat (first | (with_reducible first | exact HB.out | apply bA | apply bN | apply bD | refine bS ?_ (IsS90.ge HI0.out)) | exact HB.out), by repeat (first | (with_reducible first | exact HK.out | apply KeepBut.set_ | apply keep_drewN | apply keep_drew | apply keep_alloc) | exact HK.out)⟩
def field_GF_in.f (s0_0 : Int) (s0_1 : Int) (s0_2 : List Int) (s0_3 : Int) (s0_4 : List Int) (s0_5 : List Int) (a1 : Int) : Option (Int × Int × Int × Int) := (field_GF_Is.f s0_0 s0_1 s0_2 s0_3 s0_4 s0_5 a1).bind fun bt101 => (if bt101.1 = true then (some (a1, bt101.2.1, bt101.2.2.1, bt101.2.2.2)) else (some (0, bt101.2.1, bt101.2.2.1, bt101.2.2.2)))
theorem field_GF_in.calls (g : Nat) (s0_0 : Int) (s0_1 : Int) (s0_2 : List Int) (s0_3 : Int) (s0_4 : List Int) (s0_5 : List Int) (a1 : Int) (r1 : Int) (r2 : Int) (r3 : Int) (r4 : Int) (w0 w : World) (hI : IsS90 w0 w g s0_0 s0_1 s0_2 s0_3 s0_4 s0_5) (hB : Below w0.heap.size w0 w) (h : field_GF_in.f s0_0 s0_1 s0_2 s0_3 s0_4 s0_5 a1 = some (r1, r2, r3, r4)) :
  Calls Try.prog 86 #[.pointer (some ⟨g, 0, none⟩), .int .i64 a1] w fun e w' => e = .returned (.int .i64 r1) ∧ IsS90 w0 w' g r2 r3 s0_2 r4 s0_4 s0_5 ∧ Below w0.heap.size w0 w' ∧ KeepBut w w' g none := by
 have HI0 := Q9a.mk hI;have HK := Q9a.mk (KeepBut.refl w g none);have HL := Q9a.mk hB.size;clear hI;have HW0 := Q9a.mk hB.size;have HB := Q9a.mk hB;clear hB;have H : ((field_GF_Is.f s0_0 s0_1 s0_2 s0_3 s0_4 s0_5 a1).bind fun bt101 => (if bt101.1 = true then (some (a1, bt101.2.1, bt101.2.2.1, bt101.2.2.2)) else (some (0, bt101.2.1, bt101.2.2.1, bt101.2.2.2)))) = some (r1, r2, r3, r4) := h;clear h;replace H := Option.bind_eq_some_iff.mp H;obtain ⟨⟨t101, t102, t103, t104⟩, A30, H⟩ := H;replace H : (if t101 = true then (some (a1, t102, t103, t104)) else (some (0, t102, t103, t104))) = some (r1, r2, r3, r4) := H;have A3 := Q9a.mk A30;clear A30;by_cases c4 : t101 = true
 ·subst c4;have H1 : (some (a1, t102, t103, t104)) = some (r1, r2, r3, r4) := by rw [if_pos rfl] at H; exact H
  clear H;have H := H1;clear H1;simp only [Option.some.injEq, Prod.mk.injEq] at H;obtain ⟨rfl, rfl, rfl, rfl⟩ := H;go_enter Try.func86, Try.ntmps86
  go_wp2_with (first | ((with_reducible refine gC (f := 94) rfl ?_); refine gL (some 7) rfl rfl Try.func94 (by kernel_rfl) rfl #[.pointer (some ⟨g, 0, none⟩), .int .i64 a1] rfl (by (try simp only [sm1, sm2, sm3]); first | done | rfl | (simp only [sm4, sm5]; rfl)) ?_; (with_reducible refine (field_GF_Is.calls g s0_0 s0_1 s0_2 s0_3 s0_4 s0_5 a1 true t102 t103 t104 w0 _ ?side1 ?side2 A3.out).mono ?_); (case side1 => repeat (first | (with_reducible first | exact HI0.out | apply IsS90.alloc | apply IsS90.drewN | apply IsS90.drew | apply IsS90.set_0 | apply IsS90.set_1 | apply IsS90.set_3) | exact HI0.out)); (case side2 => repeat (first | (with_reducible first | exact HB.out | apply bA | apply bN | apply bD | refine bS ?_ (IsS90.ge HI0.out)) | exact HB.out)); rintro e w5 ⟨rfl, hi, hb, hk⟩; refine ⟨_, rfl, ?_⟩; have n0_ := Q9a.mk (KeepBut.trans (by repeat (first | (with_reducible first | exact HK.out | apply KeepBut.set_ | apply keep_drewN | apply keep_drew | apply keep_alloc) | exact HK.out)) hk (.inl rfl)); have n1_ := Q9a.mk (hb); have n2_ := Q9a.mk (hi); clear HK; clear HB; clear HI0; have HK := n0_; have HB := n1_; have HI0 := n2_; clear n0_ n1_ n2_; (try clear hb); (try clear hb2); (try clear hk); (try clear hi)))
  go_ret
  exact ⟨by first | rfl | (simp [*, eN, eS] <;> rfl), by repeat (first | (with_reducible first | exact HI0.out | apply IsS90.alloc | apply IsS90.drewN | apply IsS90.drew | apply IsS90.set_0 | apply IsS90.set_1 | apply IsS90.set_3) | exact HI0.out), by repeat (first | (with_reducible first | exact HB.out | apply bA | apply bN | apply bD | refine bS ?_ (IsS90.ge HI0.out)) | exact HB.out), by repeat (first | (with_reducible first | exact HK.out | apply KeepBut.set_ | apply keep_drewN | apply keep_drew | apply keep_alloc) | exact HK.out)⟩
 replace c4 := Bool.eq_false_iff.mpr c4;subst c4;have H1 : (some (0, t102, t103, t104)) = some (r1, r2, r3, r4) := by rw [if_neg (show ¬ (false = true) by decide)] at H; exact H
 clear H;have H := H1;clear H1;simp only [Option.some.injEq, Prod.mk.injEq] at H;obtain ⟨rfl, rfl, rfl, rfl⟩ := H;go_enter Try.func86, Try.ntmps86
 go_wp2_with (first | ((with_reducible refine gC (f := 94) rfl ?_); refine gL (some 7) rfl rfl Try.func94 (by kernel_rfl) rfl #[.pointer (some ⟨g, 0, none⟩), .int .i64 a1] rfl (by (try simp only [sm1, sm2, sm3]); first | done | rfl | (simp only [sm4, sm5]; rfl)) ?_; (with_reducible refine (field_GF_Is.calls g s0_0 s0_1 s0_2 s0_3 s0_4 s0_5 a1 false t102 t103 t104 w0 _ ?side1 ?side2 A3.out).mono ?_); (case side1 => repeat (first | (with_reducible first | exact HI0.out | apply IsS90.alloc | apply IsS90.drewN | apply IsS90.drew | apply IsS90.set_0 | apply IsS90.set_1 | apply IsS90.set_3) | exact HI0.out)); (case side2 => repeat (first | (with_reducible first | exact HB.out | apply bA | apply bN | apply bD | refine bS ?_ (IsS90.ge HI0.out)) | exact HB.out)); rintro e w6 ⟨rfl, hi, hb, hk⟩; refine ⟨_, rfl, ?_⟩; have n0_ := Q9a.mk (KeepBut.trans (by repeat (first | (with_reducible first | exact HK.out | apply KeepBut.set_ | apply keep_drewN | apply keep_drew | apply keep_alloc) | exact HK.out)) hk (.inl rfl)); have n1_ := Q9a.mk (hb); have n2_ := Q9a.mk (hi); clear HK; clear HB; clear HI0; have HK := n0_; have HB := n1_; have HI0 := n2_; clear n0_ n1_ n2_; (try clear hb); (try clear hb2); (try clear hk); (try clear hi)))
 go_ret
 exact ⟨by first | rfl | (simp [*, eN, eS] <;> rfl), by repeat (first | (with_reducible first | exact HI0.out | apply IsS90.alloc | apply IsS90.drewN | apply IsS90.drew | apply IsS90.set_0 | apply IsS90.set_1 | apply IsS90.set_3) | exact HI0.out), by repeat (first | (with_reducible first | exact HB.out | apply bA | apply bN | apply bD | refine bS ?_ (IsS90.ge HI0.out)) | exact HB.out), by repeat (first | (with_reducible first | exact HK.out | apply KeepBut.set_ | apply keep_drewN | apply keep_drew | apply keep_alloc) | exact HK.out)⟩
def field_GF_Add.l0 : Nat → Int → Int → Int → Int → Int → Int → List Int → Int → List Int → List Int → Option (Int × Int × Int × Int)
 | 0, _, _, _, _, _, _, _, _, _, _ => none
 | k + 1, x1, x2, x7, x8, x1000, x1001, x1002, x1003, x1004, x1005 => if x1 > 0 then (if x1000 = 0 then (none) else (field_GF_Add.l0 k (wrap64 (Int.tdiv x1 x1000)) (wrap64 (Int.tdiv x2 x1000)) (wrap64 (x7 + (wrap64 ((Int.tmod (wrap64 ((Int.tmod x1 x1000) + (Int.tmod x2 x1000))) x1000) * x8)))) (wrap64 (x8 * x1000)) x1000 x1001 x1002 x1003 x1004 x1005)) else (if x2 > 0 then (if x1000 = 0 then (none) else (field_GF_Add.l0 k (wrap64 (Int.tdiv x1 x1000)) (wrap64 (Int.tdiv x2 x1000)) (wrap64 (x7 + (wrap64 ((Int.tmod (wrap64 ((Int.tmod x1 x1000) + (Int.tmod x2 x1000))) x1000) * x8)))) (wrap64 (x8 * x1000)) x1000 x1001 x1002 x1003 x1004 x1005)) else (some (x7, x1000, x1001, x1003)))
def field_GF_Add.f (k : Nat) (s0_0 : Int) (s0_1 : Int) (s0_2 : List Int) (s0_3 : Int) (s0_4 : List Int) (s0_5 : List Int) (a1 : Int) (a2 : Int) : Option (Int × Int × Int × Int) := (field_GF_in.f s0_0 s0_1 s0_2 s0_3 s0_4 s0_5 a1).bind fun bt105 => ((field_GF_in.f bt105.2.1 bt105.2.2.1 s0_2 bt105.2.2.2 s0_4 s0_5 a2).bind fun bt109 => (if bt109.2.1 = 2 then (some (Go.bits .xor .i64 bt105.1 bt109.1, bt109.2.1, bt109.2.2.1, bt109.2.2.2)) else (field_GF_Add.l0 k bt105.1 bt109.1 0 1 bt109.2.1 bt109.2.2.1 s0_2 bt109.2.2.2 s0_4 s0_5)))
theorem field_GF_Add.calls (k : Nat) (g : Nat) (s0_0 : Int) (s0_1 : Int) (s0_2 : List Int) (s0_3 : Int) (s0_4 : List Int) (s0_5 : List Int) (a1 : Int) (a2 : Int) (r1 : Int) (r2 : Int) (r3 : Int) (r4 : Int) (w0 w : World) (hI : IsS90 w0 w g s0_0 s0_1 s0_2 s0_3 s0_4 s0_5) (hB : Below w0.heap.size w0 w) (h : field_GF_Add.f k s0_0 s0_1 s0_2 s0_3 s0_4 s0_5 a1 a2 = some (r1, r2, r3, r4)) :
  Calls Try.prog 64 #[.pointer (some ⟨g, 0, none⟩), .int .i64 a1, .int .i64 a2] w fun e w' => e = .returned (.int .i64 r1) ∧ IsS90 w0 w' g r2 r3 s0_2 r4 s0_4 s0_5 ∧ Below w0.heap.size w0 w' ∧ KeepBut w w' g none := by
 have HI0 := Q9a.mk hI;have HK := Q9a.mk (KeepBut.refl w g none);have HL := Q9a.mk hB.size;clear hI;have HW0 := Q9a.mk hB.size;have HB := Q9a.mk hB;clear hB;have H : ((field_GF_in.f s0_0 s0_1 s0_2 s0_3 s0_4 s0_5 a1).bind fun bt105 => ((field_GF_in.f bt105.2.1 bt105.2.2.1 s0_2 bt105.2.2.2 s0_4 s0_5 a2).bind fun bt109 => (if bt109.2.1 = 2 then (some (Go.bits .xor .i64 bt105.1 bt109.1, bt109.2.1, bt109.2.2.1, bt109.2.2.2)) else (field_GF_Add.l0 k bt105.1 bt109.1 0 1 bt109.2.1 bt109.2.2.1 s0_2 bt109.2.2.2 s0_4 s0_5)))) = some (r1, r2, r3, r4) := h;clear h;replace H := Option.bind_eq_some_iff.mp H;obtain ⟨⟨t105, t106, t107, t108⟩, A40, H⟩ := H;replace H : ((field_GF_in.f t106 t107 s0_2 t108 s0_4 s0_5 a2).bind fun bt109 => (if bt109.2.1 = 2 then (some (Go.bits .xor .i64 t105 bt109.1, bt109.2.1, bt109.2.2.1, bt109.2.2.2)) else (field_GF_Add.l0 k t105 bt109.1 0 1 bt109.2.1 bt109.2.2.1 s0_2 bt109.2.2.2 s0_4 s0_5))) = some (r1, r2, r3, r4) := H;have A4 := Q9a.mk A40;clear A40;replace H := Option.bind_eq_some_iff.mp H;obtain ⟨⟨t109, t110, t111, t112⟩, A50, H⟩ := H;replace H : (if t110 = 2 then (some (Go.bits .xor .i64 t105 t109, t110, t111, t112)) else (field_GF_Add.l0 k t105 t109 0 1 t110 t111 s0_2 t112 s0_4 s0_5)) = some (r1, r2, r3, r4) := H;have A5 := Q9a.mk A50;clear A50;by_cases c6 : t110 = 2
 ·rw [if_pos c6] at H;have c6b0 : (t110 == 2) = true := beq_iff_eq.mpr c6;have c6b1 : (t110 != 2) = false := bne_eq_false_iff_eq.mpr c6;clear c6;simp only [Option.some.injEq, Prod.mk.injEq] at H;obtain ⟨rfl, rfl, rfl, rfl⟩ := H;go_enter Try.func64, Try.ntmps64
  go_wp2_with (first | (go_at_call 86; (with_reducible refine (field_GF_in.calls g s0_0 s0_1 s0_2 s0_3 s0_4 s0_5 a1 t105 t106 t107 t108 w0 _ ?side1 ?side2 A4.out).mono ?_); (case side1 => repeat (first | (with_reducible first | exact HI0.out | apply IsS90.alloc | apply IsS90.drewN | apply IsS90.drew | apply IsS90.set_0 | apply IsS90.set_1 | apply IsS90.set_3) | exact HI0.out)); (case side2 => repeat (first | (with_reducible first | exact HB.out | apply bA | apply bN | apply bD | refine bS ?_ (IsS90.ge HI0.out)) | exact HB.out)); rintro e w7 ⟨rfl, hi, hb, hk⟩; have n0_ := Q9a.mk (KeepBut.trans (by repeat (first | (with_reducible first | exact HK.out | apply KeepBut.set_ | apply keep_drewN | apply keep_drew | apply keep_alloc) | exact HK.out)) hk (.inl rfl)); have n1_ := Q9a.mk (hb); have n2_ := Q9a.mk (hi); clear HK; clear HB; clear HI0; have HK := n0_; have HB := n1_; have HI0 := n2_; clear n0_ n1_ n2_; (try clear hb); (try clear hb2); (try clear hk); (try clear hi)) | (go_at_call 86; (with_reducible refine (field_GF_in.calls g t106 t107 s0_2 t108 s0_4 s0_5 a2 t109 t110 t111 t112 w0 _ ?side1 ?side2 A5.out).mono ?_); (case side1 => repeat (first | (with_reducible first | exact HI0.out | apply IsS90.alloc | apply IsS90.drewN | apply IsS90.drew | apply IsS90.set_0 | apply IsS90.set_1 | apply IsS90.set_3) | exact HI0.out)); (case side2 => repeat (first | (with_reducible first | exact HB.out | apply bA | apply bN | apply bD | refine bS ?_ (IsS90.ge HI0.out)) | exact HB.out)); rintro e w8 ⟨rfl, hi, hb, hk⟩; have n0_ := Q9a.mk (KeepBut.trans (by repeat (first | (with_reducible first | exact HK.out | apply KeepBut.set_ | apply keep_drewN | apply keep_drew | apply keep_alloc) | exact HK.out)) hk (.inl rfl)); have n1_ := Q9a.mk (hb); have n2_ := Q9a.mk (hi); clear HK; clear HB; clear HI0; have HK := n0_; have HB := n1_; have HI0 := n2_; clear n0_ n1_ n2_; obtain ⟨ASz9_2, cSz9_2, ASz9_4, cSz9_4, ASz9_5, cSz9_5, HGz9, hgz9, HSz9_2, HSz9_4, HSz9_5⟩ := HI0.out; have hcz9_0 := cellS90_0 HGz9; have hcz9_1 := cellS90_1 HGz9; have hcz9_2 := cellS90_2 HGz9; have hcz9_3 := cellS90_3 HGz9; have hcz9_4 := cellS90_4 HGz9; have hcz9_5 := cellS90_5 HGz9; have hfz9_0 := kF HGz9 0; have hfz9_1 := kF HGz9 1; have hfz9_3 := kF HGz9 3; clear HGz9 hgz9))
  repeat (go_quiet (first | (go_at_call 86; (with_reducible refine (field_GF_in.calls g s0_0 s0_1 s0_2 s0_3 s0_4 s0_5 a1 t105 t106 t107 t108 w0 _ ?side1 ?side2 A4.out).mono ?_); (case side1 => repeat (first | (with_reducible first | exact HI0.out | apply IsS90.alloc | apply IsS90.drewN | apply IsS90.drew | apply IsS90.set_0 | apply IsS90.set_1 | apply IsS90.set_3) | exact HI0.out)); (case side2 => repeat (first | (with_reducible first | exact HB.out | apply bA | apply bN | apply bD | refine bS ?_ (IsS90.ge HI0.out)) | exact HB.out)); rintro e w7 ⟨rfl, hi, hb, hk⟩; have n0_ := Q9a.mk (KeepBut.trans (by repeat (first | (with_reducible first | exact HK.out | apply KeepBut.set_ | apply keep_drewN | apply keep_drew | apply keep_alloc) | exact HK.out)) hk (.inl rfl)); have n1_ := Q9a.mk (hb); have n2_ := Q9a.mk (hi); clear HK; clear HB; clear HI0; have HK := n0_; have HB := n1_; have HI0 := n2_; clear n0_ n1_ n2_; (try clear hb); (try clear hb2); (try clear hk); (try clear hi)) | (go_at_call 86; (with_reducible refine (field_GF_in.calls g t106 t107 s0_2 t108 s0_4 s0_5 a2 t109 t110 t111 t112 w0 _ ?side1 ?side2 A5.out).mono ?_); (case side1 => repeat (first | (with_reducible first | exact HI0.out | apply IsS90.alloc | apply IsS90.drewN | apply IsS90.drew | apply IsS90.set_0 | apply IsS90.set_1 | apply IsS90.set_3) | exact HI0.out)); (case side2 => repeat (first | (with_reducible first | exact HB.out | apply bA | apply bN | apply bD | refine bS ?_ (IsS90.ge HI0.out)) | exact HB.out)); rintro e w8 ⟨rfl, hi, hb, hk⟩; have n0_ := Q9a.mk (KeepBut.trans (by repeat (first | (with_reducible first | exact HK.out | apply KeepBut.set_ | apply keep_drewN | apply keep_drew | apply keep_alloc) | exact HK.out)) hk (.inl rfl)); have n1_ := Q9a.mk (hb); have n2_ := Q9a.mk (hi); clear HK; clear HB; clear HI0; have HK := n0_; have HB := n1_; have HI0 := n2_; clear n0_ n1_ n2_; obtain ⟨ASz9_2, cSz9_2, ASz9_4, cSz9_4, ASz9_5, cSz9_5, HGz9, hgz9, HSz9_2, HSz9_4, HSz9_5⟩ := HI0.out; have hcz9_0 := cellS90_0 HGz9; have hcz9_1 := cellS90_1 HGz9; have hcz9_2 := cellS90_2 HGz9; have hcz9_3 := cellS90_3 HGz9; have hcz9_4 := cellS90_4 HGz9; have hcz9_5 := cellS90_5 HGz9; have hfz9_0 := kF HGz9 0; have hfz9_1 := kF HGz9 1; have hfz9_3 := kF HGz9 3; clear HGz9 hgz9)); try go_wp2_with (first | (go_at_call 86; (with_reducible refine (field_GF_in.calls g s0_0 s0_1 s0_2 s0_3 s0_4 s0_5 a1 t105 t106 t107 t108 w0 _ ?side1 ?side2 A4.out).mono ?_); (case side1 => repeat (first | (with_reducible first | exact HI0.out | apply IsS90.alloc | apply IsS90.drewN | apply IsS90.drew | apply IsS90.set_0 | apply IsS90.set_1 | apply IsS90.set_3) | exact HI0.out)); (case side2 => repeat (first | (with_reducible first | exact HB.out | apply bA | apply bN | apply bD | refine bS ?_ (IsS90.ge HI0.out)) | exact HB.out)); rintro e w7 ⟨rfl, hi, hb, hk⟩; have n0_ := Q9a.mk (KeepBut.trans (by repeat (first | (with_reducible first | exact HK.out | apply KeepBut.set_ | apply keep_drewN | apply keep_drew | apply keep_alloc) | exact HK.out)) hk (.inl rfl)); have n1_ := Q9a.mk (hb); have n2_ := Q9a.mk (hi); clear HK; clear HB; clear HI0; have HK := n0_; have HB := n1_; have HI0 := n2_; clear n0_ n1_ n2_; (try clear hb); (try clear hb2); (try clear hk); (try clear hi)) | (go_at_call 86; (with_reducible refine (field_GF_in.calls g t106 t107 s0_2 t108 s0_4 s0_5 a2 t109 t110 t111 t112 w0 _ ?side1 ?side2 A5.out).mono ?_); (case side1 => repeat (first | (with_reducible first | exact HI0.out | apply IsS90.alloc | apply IsS90.drewN | apply IsS90.drew | apply IsS90.set_0 | apply IsS90.set_1 | apply IsS90.set_3) | exact HI0.out)); (case side2 => repeat (first | (with_reducible first | exact HB.out | apply bA | apply bN | apply bD | refine bS ?_ (IsS90.ge HI0.out)) | exact HB.out)); rintro e w8 ⟨rfl, hi, hb, hk⟩; have n0_ := Q9a.mk (KeepBut.trans (by repeat (first | (with_reducible first | exact HK.out | apply KeepBut.set_ | apply keep_drewN | apply keep_drew | apply keep_alloc) | exact HK.out)) hk (.inl rfl)); have n1_ := Q9a.mk (hb); have n2_ := Q9a.mk (hi); clear HK; clear HB; clear HI0; have HK := n0_; have HB := n1_; have HI0 := n2_; clear n0_ n1_ n2_; obtain ⟨ASz9_2, cSz9_2, ASz9_4, cSz9_4, ASz9_5, cSz9_5, HGz9, hgz9, HSz9_2, HSz9_4, HSz9_5⟩ := HI0.out; have hcz9_0 := cellS90_0 HGz9; have hcz9_1 := cellS90_1 HGz9; have hcz9_2 := cellS90_2 HGz9; have hcz9_3 := cellS90_3 HGz9; have hcz9_4 := cellS90_4 HGz9; have hcz9_5 := cellS90_5 HGz9; have hfz9_0 := kF HGz9 0; have hfz9_1 := kF HGz9 1; have hfz9_3 := kF HGz9 3; clear HGz9 hgz9)))
  go_ret
  exact ⟨by first | rfl | (simp [*, eN, eS] <;> rfl), by repeat (first | (with_reducible first | exact HI0.out | apply IsS90.alloc | apply IsS90.drewN | apply IsS90.drew | apply IsS90.set_0 | apply IsS90.set_1 | apply IsS90.set_3) | exact HI0.out), by repeat (first | (with_reducible first | exact HB.out | apply bA | apply bN | apply bD | refine bS ?_ (IsS90.ge HI0.out)) | exact HB.out), by repeat (first | (with_reducible first | exact HK.out | apply KeepBut.set_ | apply keep_drewN | apply keep_drew | apply keep_alloc) | exact HK.out)⟩
 rw [if_neg c6] at H;have c6b0 : (t110 == 2) = false := beq_eq_false_iff_ne.mpr c6;have c6b1 : (t110 != 2) = true := bne_iff_ne.mpr c6;have H' := Q9a.mk H;clear H;go_enter Try.func64, Try.ntmps64
 go_wp2_with (first | (go_at_call 86; (with_reducible refine (field_GF_in.calls g s0_0 s0_1 s0_2 s0_3 s0_4 s0_5 a1 t105 t106 t107 t108 w0 _ ?side1 ?side2 A4.out).mono ?_); (case side1 => repeat (first | (with_reducible first | exact HI0.out | apply IsS90.alloc | apply IsS90.drewN | apply IsS90.drew | apply IsS90.set_0 | apply IsS90.set_1 | apply IsS90.set_3) | exact HI0.out)); (case side2 => repeat (first | (with_reducible first | exact HB.out | apply bA | apply bN | apply bD | refine bS ?_ (IsS90.ge HI0.out)) | exact HB.out)); rintro e w10 ⟨rfl, hi, hb, hk⟩; have n0_ := Q9a.mk (KeepBut.trans (by repeat (first | (with_reducible first | exact HK.out | apply KeepBut.set_ | apply keep_drewN | apply keep_drew | apply keep_alloc) | exact HK.out)) hk (.inl rfl)); have n1_ := Q9a.mk (hb); have n2_ := Q9a.mk (hi); clear HK; clear HB; clear HI0; have HK := n0_; have HB := n1_; have HI0 := n2_; clear n0_ n1_ n2_; (try clear hb); (try clear hb2); (try clear hk); (try clear hi)) | (go_at_call 86; (with_reducible refine (field_GF_in.calls g t106 t107 s0_2 t108 s0_4 s0_5 a2 t109 t110 t111 t112 w0 _ ?side1 ?side2 A5.out).mono ?_); (case side1 => repeat (first | (with_reducible first | exact HI0.out | apply IsS90.alloc | apply IsS90.drewN | apply IsS90.drew | apply IsS90.set_0 | apply IsS90.set_1 | apply IsS90.set_3) | exact HI0.out)); (case side2 => repeat (first | (with_reducible first | exact HB.out | apply bA | apply bN | apply bD | refine bS ?_ (IsS90.ge HI0.out)) | exact HB.out)); rintro e w11 ⟨rfl, hi, hb, hk⟩; have n0_ := Q9a.mk (KeepBut.trans (by repeat (first | (with_reducible first | exact HK.out | apply KeepBut.set_ | apply keep_drewN | apply keep_drew | apply keep_alloc) | exact HK.out)) hk (.inl rfl)); have n1_ := Q9a.mk (hb); have n2_ := Q9a.mk (hi); clear HK; clear HB; clear HI0; have HK := n0_; have HB := n1_; have HI0 := n2_; clear n0_ n1_ n2_; obtain ⟨ASz12_2, cSz12_2, ASz12_4, cSz12_4, ASz12_5, cSz12_5, HGz12, hgz12, HSz12_2, HSz12_4, HSz12_5⟩ := HI0.out; have hcz12_0 := cellS90_0 HGz12; have hcz12_1 := cellS90_1 HGz12; have hcz12_2 := cellS90_2 HGz12; have hcz12_3 := cellS90_3 HGz12; have hcz12_4 := cellS90_4 HGz12; have hcz12_5 := cellS90_5 HGz12; have hfz12_0 := kF HGz12 0; have hfz12_1 := kF HGz12 1; have hfz12_3 := kF HGz12 3; clear HGz12 hgz12))
 repeat (go_quiet (first | (go_at_call 86; (with_reducible refine (field_GF_in.calls g s0_0 s0_1 s0_2 s0_3 s0_4 s0_5 a1 t105 t106 t107 t108 w0 _ ?side1 ?side2 A4.out).mono ?_); (case side1 => repeat (first | (with_reducible first | exact HI0.out | apply IsS90.alloc | apply IsS90.drewN | apply IsS90.drew | apply IsS90.set_0 | apply IsS90.set_1 | apply IsS90.set_3) | exact HI0.out)); (case side2 => repeat (first | (with_reducible first | exact HB.out | apply bA | apply bN | apply bD | refine bS ?_ (IsS90.ge HI0.out)) | exact HB.out)); rintro e w10 ⟨rfl, hi, hb, hk⟩; have n0_ := Q9a.mk (KeepBut.trans (by repeat (first | (with_reducible first | exact HK.out | apply KeepBut.set_ | apply keep_drewN | apply keep_drew | apply keep_alloc) | exact HK.out)) hk (.inl rfl)); have n1_ := Q9a.mk (hb); have n2_ := Q9a.mk (hi); clear HK; clear HB; clear HI0; have HK := n0_; have HB := n1_; have HI0 := n2_; clear n0_ n1_ n2_; (try clear hb); (try clear hb2); (try clear hk); (try clear hi)) | (go_at_call 86; (with_reducible refine (field_GF_in.calls g t106 t107 s0_2 t108 s0_4 s0_5 a2 t109 t110 t111 t112 w0 _ ?side1 ?side2 A5.out).mono ?_); (case side1 => repeat (first | (with_reducible first | exact HI0.out | apply IsS90.alloc | apply IsS90.drewN | apply IsS90.drew | apply IsS90.set_0 | apply IsS90.set_1 | apply IsS90.set_3) | exact HI0.out)); (case side2 => repeat (first | (with_reducible first | exact HB.out | apply bA | apply bN | apply bD | refine bS ?_ (IsS90.ge HI0.out)) | exact HB.out)); rintro e w11 ⟨rfl, hi, hb, hk⟩; have n0_ := Q9a.mk (KeepBut.trans (by repeat (first | (with_reducible first | exact HK.out | apply KeepBut.set_ | apply keep_drewN | apply keep_drew | apply keep_alloc) | exact HK.out)) hk (.inl rfl)); have n1_ := Q9a.mk (hb); have n2_ := Q9a.mk (hi); clear HK; clear HB; clear HI0; have HK := n0_; have HB := n1_; have HI0 := n2_; clear n0_ n1_ n2_; obtain ⟨ASz12_2, cSz12_2, ASz12_4, cSz12_4, ASz12_5, cSz12_5, HGz12, hgz12, HSz12_2, HSz12_4, HSz12_5⟩ := HI0.out; have hcz12_0 := cellS90_0 HGz12; have hcz12_1 := cellS90_1 HGz12; have hcz12_2 := cellS90_2 HGz12; have hcz12_3 := cellS90_3 HGz12; have hcz12_4 := cellS90_4 HGz12; have hcz12_5 := cellS90_5 HGz12; have hfz12_0 := kF HGz12 0; have hfz12_1 := kF HGz12 1; have hfz12_3 := kF HGz12 3; clear HGz12 hgz12)); try go_wp2_with (first | (go_at_call 86; (with_reducible refine (field_GF_in.calls g s0_0 s0_1 s0_2 s0_3 s0_4 s0_5 a1 t105 t106 t107 t108 w0 _ ?side1 ?side2 A4.out).mono ?_); (case side1 => repeat (first | (with_reducible first | exact HI0.out | apply IsS90.alloc | apply IsS90.drewN | apply IsS90.drew | apply IsS90.set_0 | apply IsS90.set_1 | apply IsS90.set_3) | exact HI0.out)); (case side2 => repeat (first | (with_reducible first | exact HB.out | apply bA | apply bN | apply bD | refine bS ?_ (IsS90.ge HI0.out)) | exact HB.out)); rintro e w10 ⟨rfl, hi, hb, hk⟩; have n0_ := Q9a.mk (KeepBut.trans (by repeat (first | (with_reducible first | exact HK.out | apply KeepBut.set_ | apply keep_drewN | apply keep_drew | apply keep_alloc) | exact HK.out)) hk (.inl rfl)); have n1_ := Q9a.mk (hb); have n2_ := Q9a.mk (hi); clear HK; clear HB; clear HI0; have HK := n0_; have HB := n1_; have HI0 := n2_; clear n0_ n1_ n2_; (try clear hb); (try clear hb2); (try clear hk); (try clear hi)) | (go_at_call 86; (with_reducible refine (field_GF_in.calls g t106 t107 s0_2 t108 s0_4 s0_5 a2 t109 t110 t111 t112 w0 _ ?side1 ?side2 A5.out).mono ?_); (case side1 => repeat (first | (with_reducible first | exact HI0.out | apply IsS90.alloc | apply IsS90.drewN | apply IsS90.drew | apply IsS90.set_0 | apply IsS90.set_1 | apply IsS90.set_3) | exact HI0.out)); (case side2 => repeat (first | (with_reducible first | exact HB.out | apply bA | apply bN | apply bD | refine bS ?_ (IsS90.ge HI0.out)) | exact HB.out)); rintro e w11 ⟨rfl, hi, hb, hk⟩; have n0_ := Q9a.mk (KeepBut.trans (by repeat (first | (with_reducible first | exact HK.out | apply KeepBut.set_ | apply keep_drewN | apply keep_drew | apply keep_alloc) | exact HK.out)) hk (.inl rfl)); have n1_ := Q9a.mk (hb); have n2_ := Q9a.mk (hi); clear HK; clear HB; clear HI0; have HK := n0_; have HB := n1_; have HI0 := n2_; clear n0_ n1_ n2_; obtain ⟨ASz12_2, cSz12_2, ASz12_4, cSz12_4, ASz12_5, cSz12_5, HGz12, hgz12, HSz12_2, HSz12_4, HSz12_5⟩ := HI0.out; have hcz12_0 := cellS90_0 HGz12; have hcz12_1 := cellS90_1 HGz12; have hcz12_2 := cellS90_2 HGz12; have hcz12_3 := cellS90_3 HGz12; have hcz12_4 := cellS90_4 HGz12; have hcz12_5 := cellS90_5 HGz12; have hfz12_0 := kF HGz12 0; have hfz12_1 := kF HGz12 1; have hfz12_3 := kF HGz12 3; clear HGz12 hgz12)))
 go_loopg [1, 2, 7, 8] k (fun kq v1 v2 v7 v8 w' => ∃ (x1_1 : Int) (x2_1 : Int) (x7_1 : Int) (x8_1 : Int), v1 = .int .i64 x1_1 ∧ v2 = .int .i64 x2_1 ∧ v7 = .int .i64 x7_1 ∧ v8 = .int .i64 x8_1 ∧ Q9a (field_GF_Add.l0 kq x1_1 x2_1 x7_1 x8_1 t110 t111 s0_2 t112 s0_4 s0_5 = some (r1, r2, r3, r4)) ∧ Q9a (kq ≤ k) ∧ Q9a (IsS90 w0 w' g t110 t111 s0_2 t112 s0_4 s0_5) ∧ Q9a (KeepBut w w' g none) ∧ Q9a (Below w0.heap.size w0 w'))
 case atStart => exact ⟨(t105), (t109), (0), (1), (by first | rfl | (simp; done) | (simp [*]; done)), (by first | rfl | (simp; done) | (simp [*]; done)), (by first | rfl | (simp; done) | (simp [*]; done)), (by first | rfl | (simp; done) | (simp [*]; done)), H', ⟨Nat.le_refl _⟩, ⟨by repeat (first | (with_reducible first | exact HI0.out | apply IsS90.alloc | apply IsS90.drewN | apply IsS90.drew | apply IsS90.set_0 | apply IsS90.set_1 | apply IsS90.set_3) | exact HI0.out)⟩, ⟨by repeat (first | (with_reducible first | exact HK.out | apply KeepBut.set_ | apply keep_drewN | apply keep_drew | apply keep_alloc) | exact HK.out)⟩, ⟨by repeat (first | (with_reducible first | exact HB.out | apply bA | apply bN | apply bD | refine bS ?_ (IsS90.ge HI0.out)) | exact HB.out)⟩⟩
 case round =>
  clear H';try clear p2
  try clear c6
  try clear c6b0
  try clear c6b1
  try clear hcz12_0
  try clear hcz12_1
  try clear hcz12_2
  try clear hcz12_3
  try clear hcz12_4
  try clear hcz12_5
  try clear hcz9_0
  try clear hcz9_1
  try clear hcz9_2
  try clear hcz9_3
  try clear hcz9_4
  try clear hcz9_5
  try clear hfz12_0
  try clear hfz12_1
  try clear hfz12_3
  try clear hfz9_0
  try clear hfz9_1
  try clear hfz9_3
  obtain ⟨x1_1, x2_1, x7_1, x8_1, rfl, rfl, rfl, rfl, HA, HK1, HI0, HK, HB⟩ := hrel
  cases gk with
  | zero => exact absurd HA.out (by simp [field_GF_Add.l0])
  | succ k1 =>
   have H := HA.out;clear HA;simp only [field_GF_Add.l0] at H;by_cases c13 : x1_1 > 0
   ·rw [if_pos c13] at H;have c13b0 : decide (0 < x1_1) = true := decide_eq_true c13;clear c13;by_cases c14 : t110 = 0
    ·rw [if_pos c14] at H;exact absurd H (by simp)
    rw [if_neg c14] at H;have c14b0 : (t110 == 0) = false := beq_eq_false_iff_ne.mpr c14;have c14b1 : (t110 != 0) = true := bne_iff_ne.mpr c14;have H' := Q9a.mk H;clear H;obtain ⟨ASz15_2, cSz15_2, ASz15_4, cSz15_4, ASz15_5, cSz15_5, HGz15, hgz15, HSz15_2, HSz15_4, HSz15_5⟩ := HI0.out;have hcz15_0 := cellS90_0 HGz15;have hcz15_1 := cellS90_1 HGz15;have hcz15_2 := cellS90_2 HGz15;have hcz15_3 := cellS90_3 HGz15;have hcz15_4 := cellS90_4 HGz15;have hcz15_5 := cellS90_5 HGz15;have hfz15_0 := kF HGz15 0;have hfz15_1 := kF HGz15 1;have hfz15_3 := kF HGz15 3;clear HGz15 hgz15;go_wp2
    repeat (go_quiet (fail); try go_wp2)
    go_roundg k1
    case measure => have := HK1.out; omega
    case rel => exact ⟨(wrap64 (Int.tdiv x1_1 t110)), (wrap64 (Int.tdiv x2_1 t110)), (wrap64 (x7_1 + (wrap64 ((Int.tmod (wrap64 ((Int.tmod x1_1 t110) + (Int.tmod x2_1 t110))) t110) * x8_1)))), (wrap64 (x8_1 * t110)), (by first | rfl | (simp; done) | (simp [*]; done)), (by first | rfl | (simp; done) | (simp [*]; done)), (by first | rfl | (simp; done) | (simp [*]; done)), (by first | rfl | (simp; done) | (simp [*]; done)), H', ⟨by have := HK1.out; omega⟩, ⟨by repeat (first | (with_reducible first | exact HI0.out | apply IsS90.alloc | apply IsS90.drewN | apply IsS90.drew | apply IsS90.set_0 | apply IsS90.set_1 | apply IsS90.set_3) | exact HI0.out)⟩, ⟨by repeat (first | (with_reducible first | exact HK.out | apply KeepBut.set_ | apply keep_drewN | apply keep_drew | apply keep_alloc) | exact HK.out)⟩, ⟨by repeat (first | (with_reducible first | exact HB.out | apply bA | apply bN | apply bD | refine bS ?_ (IsS90.ge HI0.out)) | exact HB.out)⟩⟩
   rw [if_neg c13] at H;have c13b0 : decide (0 < x1_1) = false := decide_eq_false c13;clear c13;by_cases c16 : x2_1 > 0
   ·rw [if_pos c16] at H;have c16b0 : decide (0 < x2_1) = true := decide_eq_true c16;clear c16;by_cases c17 : t110 = 0
    ·rw [if_pos c17] at H;exact absurd H (by simp)
    rw [if_neg c17] at H;have c17b0 : (t110 == 0) = false := beq_eq_false_iff_ne.mpr c17;have c17b1 : (t110 != 0) = true := bne_iff_ne.mpr c17;have H' := Q9a.mk H;clear H;obtain ⟨ASz18_2, cSz18_2, ASz18_4, cSz18_4, ASz18_5, cSz18_5, HGz18, hgz18, HSz18_2, HSz18_4, HSz18_5⟩ := HI0.out;have hcz18_0 := cellS90_0 HGz18;have hcz18_1 := cellS90_1 HGz18;have hcz18_2 := cellS90_2 HGz18;have hcz18_3 := cellS90_3 HGz18;have hcz18_4 := cellS90_4 HGz18;have hcz18_5 := cellS90_5 HGz18;have hfz18_0 := kF HGz18 0;have hfz18_1 := kF HGz18 1;have hfz18_3 := kF HGz18 3;clear HGz18 hgz18;go_wp2
    repeat (go_quiet (fail); try go_wp2)
    go_roundg k1
    case measure => have := HK1.out; omega
    case rel => exact ⟨(wrap64 (Int.tdiv x1_1 t110)), (wrap64 (Int.tdiv x2_1 t110)), (wrap64 (x7_1 + (wrap64 ((Int.tmod (wrap64 ((Int.tmod x1_1 t110) + (Int.tmod x2_1 t110))) t110) * x8_1)))), (wrap64 (x8_1 * t110)), (by first | rfl | (simp; done) | (simp [*]; done)), (by first | rfl | (simp; done) | (simp [*]; done)), (by first | rfl | (simp; done) | (simp [*]; done)), (by first | rfl | (simp; done) | (simp [*]; done)), H', ⟨by have := HK1.out; omega⟩, ⟨by repeat (first | (with_reducible first | exact HI0.out | apply IsS90.alloc | apply IsS90.drewN | apply IsS90.drew | apply IsS90.set_0 | apply IsS90.set_1 | apply IsS90.set_3) | exact HI0.out)⟩, ⟨by repeat (first | (with_reducible first | exact HK.out | apply KeepBut.set_ | apply keep_drewN | apply keep_drew | apply keep_alloc) | exact HK.out)⟩, ⟨by repeat (first | (with_reducible first | exact HB.out | apply bA | apply bN | apply bD | refine bS ?_ (IsS90.ge HI0.out)) | exact HB.out)⟩⟩
   rw [if_neg c16] at H;have c16b0 : decide (0 < x2_1) = false := decide_eq_false c16;clear c16;simp only [Option.some.injEq, Prod.mk.injEq] at H;obtain ⟨rfl, rfl, rfl, rfl⟩ := H;go_wp2
   repeat (go_quiet (fail); try go_wp2)
   go_ret
   exact ⟨by first | rfl | (simp [*, eN, eS] <;> rfl), by repeat (first | (with_reducible first | exact HI0.out | apply IsS90.alloc | apply IsS90.drewN | apply IsS90.drew | apply IsS90.set_0 | apply IsS90.set_1 | apply IsS90.set_3) | exact HI0.out), by repeat (first | (with_reducible first | exact HB.out | apply bA | apply bN | apply bD | refine bS ?_ (IsS90.ge HI0.out)) | exact HB.out), by repeat (first | (with_reducible first | exact HK.out | apply KeepBut.set_ | apply keep_drewN | apply keep_drew | apply keep_alloc) | exact HK.out)⟩
def field_GF_Neg.l0 : Nat → Int → Int → Int → Int → Int → List Int → Int → List Int → List Int → Option (Int × Int × Int × Int)
 | 0, _, _, _, _, _, _, _, _, _ => none
 | k + 1, x1, x5, x6, x1000, x1001, x1002, x1003, x1004, x1005 => if x1 > 0 then (if x1000 = 0 then (none) else (field_GF_Neg.l0 k (wrap64 (Int.tdiv x1 x1000)) (wrap64 (x5 + (wrap64 ((Int.tmod (wrap64 (x1000 - (Int.tmod x1 x1000))) x1000) * x6)))) (wrap64 (x6 * x1000)) x1000 x1001 x1002 x1003 x1004 x1005)) else (some (x5, x1000, x1001, x1003))
def field_GF_Neg.f (k : Nat) (s0_0 : Int) (s0_1 : Int) (s0_2 : List Int) (s0_3 : Int) (s0_4 : List Int) (s0_5 : List Int) (a1 : Int) : Option (Int × Int × Int × Int) := (field_GF_in.f s0_0 s0_1 s0_2 s0_3 s0_4 s0_5 a1).bind fun bt113 => (field_GF_Neg.l0 k bt113.1 0 1 bt113.2.1 bt113.2.2.1 s0_2 bt113.2.2.2 s0_4 s0_5)
theorem field_GF_Neg.calls (k : Nat) (g : Nat) (s0_0 : Int) (s0_1 : Int) (s0_2 : List Int) (s0_3 : Int) (s0_4 : List Int) (s0_5 : List Int) (a1 : Int) (r1 : Int) (r2 : Int) (r3 : Int) (r4 : Int) (w0 w : World) (hI : IsS90 w0 w g s0_0 s0_1 s0_2 s0_3 s0_4 s0_5) (hB : Below w0.heap.size w0 w) (h : field_GF_Neg.f k s0_0 s0_1 s0_2 s0_3 s0_4 s0_5 a1 = some (r1, r2, r3, r4)) :
  Calls Try.prog 75 #[.pointer (some ⟨g, 0, none⟩), .int .i64 a1] w fun e w' => e = .returned (.int .i64 r1) ∧ IsS90 w0 w' g r2 r3 s0_2 r4 s0_4 s0_5 ∧ Below w0.heap.size w0 w' ∧ KeepBut w w' g none := by
 have HI0 := Q9a.mk hI;have HK := Q9a.mk (KeepBut.refl w g none);have HL := Q9a.mk hB.size;clear hI;have HW0 := Q9a.mk hB.size;have HB := Q9a.mk hB;clear hB;have H : ((field_GF_in.f s0_0 s0_1 s0_2 s0_3 s0_4 s0_5 a1).bind fun bt113 => (field_GF_Neg.l0 k bt113.1 0 1 bt113.2.1 bt113.2.2.1 s0_2 bt113.2.2.2 s0_4 s0_5)) = some (r1, r2, r3, r4) := h;clear h;replace H := Option.bind_eq_some_iff.mp H;obtain ⟨⟨t113, t114, t115, t116⟩, A30, H⟩ := H;replace H : (field_GF_Neg.l0 k t113 0 1 t114 t115 s0_2 t116 s0_4 s0_5) = some (r1, r2, r3, r4) := H;have A3 := Q9a.mk A30;clear A30;have H' := Q9a.mk H;clear H;go_enter Try.func75, Try.ntmps75
 go_wp2_with (first | (go_at_call 86; (with_reducible refine (field_GF_in.calls g s0_0 s0_1 s0_2 s0_3 s0_4 s0_5 a1 t113 t114 t115 t116 w0 _ ?side1 ?side2 A3.out).mono ?_); (case side1 => repeat (first | (with_reducible first | exact HI0.out | apply IsS90.alloc | apply IsS90.drewN | apply IsS90.drew | apply IsS90.set_0 | apply IsS90.set_1 | apply IsS90.set_3) | exact HI0.out)); (case side2 => repeat (first | (with_reducible first | exact HB.out | apply bA | apply bN | apply bD | refine bS ?_ (IsS90.ge HI0.out)) | exact HB.out)); rintro e w4 ⟨rfl, hi, hb, hk⟩; have n0_ := Q9a.mk (KeepBut.trans (by repeat (first | (with_reducible first | exact HK.out | apply KeepBut.set_ | apply keep_drewN | apply keep_drew | apply keep_alloc) | exact HK.out)) hk (.inl rfl)); have n1_ := Q9a.mk (hb); have n2_ := Q9a.mk (hi); clear HK; clear HB; clear HI0; have HK := n0_; have HB := n1_; have HI0 := n2_; clear n0_ n1_ n2_; (try clear hb); (try clear hb2); (try clear hk); (try clear hi)))
 repeat (go_quiet (first | (go_at_call 86; (with_reducible refine (field_GF_in.calls g s0_0 s0_1 s0_2 s0_3 s0_4 s0_5 a1 t113 t114 t115 t116 w0 _ ?side1 ?side2 A3.out).mono ?_); (case side1 => repeat (first | (with_reducible first | exact HI0.out | apply IsS90.alloc | apply IsS90.drewN | apply IsS90.drew | apply IsS90.set_0 | apply IsS90.set_1 | apply IsS90.set_3) | exact HI0.out)); (case side2 => repeat (first | (with_reducible first | exact HB.out | apply bA | apply bN | apply bD | refine bS ?_ (IsS90.ge HI0.out)) | exact HB.out)); rintro e w4 ⟨rfl, hi, hb, hk⟩; have n0_ := Q9a.mk (KeepBut.trans (by repeat (first | (with_reducible first | exact HK.out | apply KeepBut.set_ | apply keep_drewN | apply keep_drew | apply keep_alloc) | exact HK.out)) hk (.inl rfl)); have n1_ := Q9a.mk (hb); have n2_ := Q9a.mk (hi); clear HK; clear HB; clear HI0; have HK := n0_; have HB := n1_; have HI0 := n2_; clear n0_ n1_ n2_; (try clear hb); (try clear hb2); (try clear hk); (try clear hi))); try go_wp2_with (first | (go_at_call 86; (with_reducible refine (field_GF_in.calls g s0_0 s0_1 s0_2 s0_3 s0_4 s0_5 a1 t113 t114 t115 t116 w0 _ ?side1 ?side2 A3.out).mono ?_); (case side1 => repeat (first | (with_reducible first | exact HI0.out | apply IsS90.alloc | apply IsS90.drewN | apply IsS90.drew | apply IsS90.set_0 | apply IsS90.set_1 | apply IsS90.set_3) | exact HI0.out)); (case side2 => repeat (first | (with_reducible first | exact HB.out | apply bA | apply bN | apply bD | refine bS ?_ (IsS90.ge HI0.out)) | exact HB.out)); rintro e w4 ⟨rfl, hi, hb, hk⟩; have n0_ := Q9a.mk (KeepBut.trans (by repeat (first | (with_reducible first | exact HK.out | apply KeepBut.set_ | apply keep_drewN | apply keep_drew | apply keep_alloc) | exact HK.out)) hk (.inl rfl)); have n1_ := Q9a.mk (hb); have n2_ := Q9a.mk (hi); clear HK; clear HB; clear HI0; have HK := n0_; have HB := n1_; have HI0 := n2_; clear n0_ n1_ n2_; (try clear hb); (try clear hb2); (try clear hk); (try clear hi))))
 go_loopg [1, 5, 6] k (fun kq v1 v5 v6 w' => ∃ (x1_1 : Int) (x5_1 : Int) (x6_1 : Int), v1 = .int .i64 x1_1 ∧ v5 = .int .i64 x5_1 ∧ v6 = .int .i64 x6_1 ∧ Q9a (field_GF_Neg.l0 kq x1_1 x5_1 x6_1 t114 t115 s0_2 t116 s0_4 s0_5 = some (r1, r2, r3, r4)) ∧ Q9a (kq ≤ k) ∧ Q9a (IsS90 w0 w' g t114 t115 s0_2 t116 s0_4 s0_5) ∧ Q9a (KeepBut w w' g none) ∧ Q9a (Below w0.heap.size w0 w'))
 case atStart => exact ⟨(t113), (0), (1), (by first | rfl | (simp; done) | (simp [*]; done)), (by first | rfl | (simp; done) | (simp [*]; done)), (by first | rfl | (simp; done) | (simp [*]; done)), H', ⟨Nat.le_refl _⟩, ⟨by repeat (first | (with_reducible first | exact HI0.out | apply IsS90.alloc | apply IsS90.drewN | apply IsS90.drew | apply IsS90.set_0 | apply IsS90.set_1 | apply IsS90.set_3) | exact HI0.out)⟩, ⟨by repeat (first | (with_reducible first | exact HK.out | apply KeepBut.set_ | apply keep_drewN | apply keep_drew | apply keep_alloc) | exact HK.out)⟩, ⟨by repeat (first | (with_reducible first | exact HB.out | apply bA | apply bN | apply bD | refine bS ?_ (IsS90.ge HI0.out)) | exact HB.out)⟩⟩
 case round =>
  clear H';try clear p2
  obtain ⟨x1_1, x5_1, x6_1, rfl, rfl, rfl, HA, HK1, HI0, HK, HB⟩ := hrel
  cases gk with
  | zero => exact absurd HA.out (by simp [field_GF_Neg.l0])
  | succ k1 =>
   have H := HA.out;clear HA;simp only [field_GF_Neg.l0] at H;by_cases c5 : x1_1 > 0
   ·rw [if_pos c5] at H;have c5b0 : decide (0 < x1_1) = true := decide_eq_true c5;clear c5;by_cases c6 : t114 = 0
    ·rw [if_pos c6] at H;exact absurd H (by simp)
    rw [if_neg c6] at H;have c6b0 : (t114 == 0) = false := beq_eq_false_iff_ne.mpr c6;have c6b1 : (t114 != 0) = true := bne_iff_ne.mpr c6;have H' := Q9a.mk H;clear H;obtain ⟨ASz7_2, cSz7_2, ASz7_4, cSz7_4, ASz7_5, cSz7_5, HGz7, hgz7, HSz7_2, HSz7_4, HSz7_5⟩ := HI0.out;have hcz7_0 := cellS90_0 HGz7;have hcz7_1 := cellS90_1 HGz7;have hcz7_2 := cellS90_2 HGz7;have hcz7_3 := cellS90_3 HGz7;have hcz7_4 := cellS90_4 HGz7;have hcz7_5 := cellS90_5 HGz7;have hfz7_0 := kF HGz7 0;have hfz7_1 := kF HGz7 1;have hfz7_3 := kF HGz7 3;clear HGz7 hgz7;go_wp2
    repeat (go_quiet (fail); try go_wp2)
    go_roundg k1
    case measure => have := HK1.out; omega
    case rel => exact ⟨(wrap64 (Int.tdiv x1_1 t114)), (wrap64 (x5_1 + (wrap64 ((Int.tmod (wrap64 (t114 - (Int.tmod x1_1 t114))) t114) * x6_1)))), (wrap64 (x6_1 * t114)), (by first | rfl | (simp; done) | (simp [*]; done)), (by first | rfl | (simp; done) | (simp [*]; done)), (by first | rfl | (simp; done) | (simp [*]; done)), H', ⟨by have := HK1.out; omega⟩, ⟨by repeat (first | (with_reducible first | exact HI0.out | apply IsS90.alloc | apply IsS90.drewN | apply IsS90.drew | apply IsS90.set_0 | apply IsS90.set_1 | apply IsS90.set_3) | exact HI0.out)⟩, ⟨by repeat (first | (with_reducible first | exact HK.out | apply KeepBut.set_ | apply keep_drewN | apply keep_drew | apply keep_alloc) | exact HK.out)⟩, ⟨by repeat (first | (with_reducible first | exact HB.out | apply bA | apply bN | apply bD | refine bS ?_ (IsS90.ge HI0.out)) | exact HB.out)⟩⟩
   rw [if_neg c5] at H;have c5b0 : decide (0 < x1_1) = false := decide_eq_false c5;clear c5;simp only [Option.some.injEq, Prod.mk.injEq] at H;obtain ⟨rfl, rfl, rfl, rfl⟩ := H;go_wp2
   repeat (go_quiet (fail); try go_wp2)
   go_ret
   exact ⟨by first | rfl | (simp [*, eN, eS] <;> rfl), by repeat (first | (with_reducible first | exact HI0.out | apply IsS90.alloc | apply IsS90.drewN | apply IsS90.drew | apply IsS90.set_0 | apply IsS90.set_1 | apply IsS90.set_3) | exact HI0.out), by repeat (first | (with_reducible first | exact HB.out | apply bA | apply bN | apply bD | refine bS ?_ (IsS90.ge HI0.out)) | exact HB.out), by repeat (first | (with_reducible first | exact HK.out | apply KeepBut.set_ | apply keep_drewN | apply keep_drew | apply keep_alloc) | exact HK.out)⟩
def field_GF_Mul.f (s0_0 : Int) (s0_1 : Int) (s0_2 : List Int) (s0_3 : Int) (s0_4 : List Int) (s0_5 : List Int) (a1 : Int) (a2 : Int) : Option (Int × Int × Int × Int) := (field_GF_in.f s0_0 s0_1 s0_2 s0_3 s0_4 s0_5 a1).bind fun bt117 => ((field_GF_in.f bt117.2.1 bt117.2.2.1 s0_2 bt117.2.2.2 s0_4 s0_5 a2).bind fun bt121 => (if bt117.1 = 0 then (some (0, bt121.2.1, bt121.2.2.1, bt121.2.2.2)) else (if bt121.1 = 0 then (some (0, bt121.2.1, bt121.2.2.1, bt121.2.2.2)) else (if 0 ≤ bt117.1 then (if bt117.1 < (s0_5.length : Int) then (if 0 ≤ bt121.1 then (if bt121.1 < (s0_5.length : Int) then (if (wrap64 (bt121.2.2.2 - 1)) = 0 then (none) else (if 0 ≤ (Int.tmod (wrap64 ((rd s0_5 bt117.1) + (rd s0_5 bt121.1))) (wrap64 (bt121.2.2.2 - 1))) then (if (Int.tmod (wrap64 ((rd s0_5 bt117.1) + (rd s0_5 bt121.1))) (wrap64 (bt121.2.2.2 - 1))) < (s0_4.length : Int) then (some (rd s0_4 (Int.tmod (wrap64 ((rd s0_5 bt117.1) + (rd s0_5 bt121.1))) (wrap64 (bt121.2.2.2 - 1))), bt121.2.1, bt121.2.2.1, bt121.2.2.2)) else (none)) else (none))) else (none)) else (none)) else (none)) else (none)))))
theorem field_GF_Mul.calls (g : Nat) (s0_0 : Int) (s0_1 : Int) (s0_2 : List Int) (s0_3 : Int) (s0_4 : List Int) (s0_5 : List Int) (a1 : Int) (a2 : Int) (r1 : Int) (r2 : Int) (r3 : Int) (r4 : Int) (w0 w : World) (hI : IsS90 w0 w g s0_0 s0_1 s0_2 s0_3 s0_4 s0_5) (hB : Below w0.heap.size w0 w) (h : field_GF_Mul.f s0_0 s0_1 s0_2 s0_3 s0_4 s0_5 a1 a2 = some (r1, r2, r3, r4)) :
  Calls Try.prog 56 #[.pointer (some ⟨g, 0, none⟩), .int .i64 a1, .int .i64 a2] w fun e w' => e = .returned (.int .i64 r1) ∧ IsS90 w0 w' g r2 r3 s0_2 r4 s0_4 s0_5 ∧ Below w0.heap.size w0 w' ∧ KeepBut w w' g none := by
 have HI0 := Q9a.mk hI;have HK := Q9a.mk (KeepBut.refl w g none);have HL := Q9a.mk hB.size;clear hI;have HW0 := Q9a.mk hB.size;have HB := Q9a.mk hB;clear hB;have H : ((field_GF_in.f s0_0 s0_1 s0_2 s0_3 s0_4 s0_5 a1).bind fun bt117 => ((field_GF_in.f bt117.2.1 bt117.2.2.1 s0_2 bt117.2.2.2 s0_4 s0_5 a2).bind fun bt121 => (if bt117.1 = 0 then (some (0, bt121.2.1, bt121.2.2.1, bt121.2.2.2)) else (if bt121.1 = 0 then (some (0, bt121.2.1, bt121.2.2.1, bt121.2.2.2)) else (if 0 ≤ bt117.1 then (if bt117.1 < (s0_5.length : Int) then (if 0 ≤ bt121.1 then (if bt121.1 < (s0_5.length : Int) then (if (wrap64 (bt121.2.2.2 - 1)) = 0 then (none) else (if 0 ≤ (Int.tmod (wrap64 ((rd s0_5 bt117.1) + (rd s0_5 bt121.1))) (wrap64 (bt121.2.2.2 - 1))) then (if (Int.tmod (wrap64 ((rd s0_5 bt117.1) + (rd s0_5 bt121.1))) (wrap64 (bt121.2.2.2 - 1))) < (s0_4.length : Int) then (some (rd s0_4 (Int.tmod (wrap64 ((rd s0_5 bt117.1) + (rd s0_5 bt121.1))) (wrap64 (bt121.2.2.2 - 1))), bt121.2.1, bt121.2.2.1, bt121.2.2.2)) else (none)) else (none))) else (none)) else (none)) else (none)) else (none)))))) = some (r1, r2, r3, r4) := h;clear h;replace H := Option.bind_eq_some_iff.mp H;obtain ⟨⟨t117, t118, t119, t120⟩, A40, H⟩ := H;replace H : ((field_GF_in.f t118 t119 s0_2 t120 s0_4 s0_5 a2).bind fun bt121 => (if t117 = 0 then (some (0, bt121.2.1, bt121.2.2.1, bt121.2.2.2)) else (if bt121.1 = 0 then (some (0, bt121.2.1, bt121.2.2.1, bt121.2.2.2)) else (if 0 ≤ t117 then (if t117 < (s0_5.length : Int) then (if 0 ≤ bt121.1 then (if bt121.1 < (s0_5.length : Int) then (if (wrap64 (bt121.2.2.2 - 1)) = 0 then (none) else (if 0 ≤ (Int.tmod (wrap64 ((rd s0_5 t117) + (rd s0_5 bt121.1))) (wrap64 (bt121.2.2.2 - 1))) then (if (Int.tmod (wrap64 ((rd s0_5 t117) + (rd s0_5 bt121.1))) (wrap64 (bt121.2.2.2 - 1))) < (s0_4.length : Int) then (some (rd s0_4 (Int.tmod (wrap64 ((rd s0_5 t117) + (rd s0_5 bt121.1))) (wrap64 (bt121.2.2.2 - 1))), bt121.2.1, bt121.2.2.1, bt121.2.2.2)) else (none)) else (none))) else (none)) else (none)) else (none)) else (none))))) = some (r1, r2, r3, r4) := H;have A4 := Q9a.mk A40;clear A40;replace H := Option.bind_eq_some_iff.mp H;obtain ⟨⟨t121, t122, t123, t124⟩, A50, H⟩ := H;replace H : (if t117 = 0 then (some (0, t122, t123, t124)) else (if t121 = 0 then (some (0, t122, t123, t124)) else (if 0 ≤ t117 then (if t117 < (s0_5.length : Int) then (if 0 ≤ t121 then (if t121 < (s0_5.length : Int) then (if (wrap64 (t124 - 1)) = 0 then (none) else (if 0 ≤ (Int.tmod (wrap64 ((rd s0_5 t117) + (rd s0_5 t121))) (wrap64 (t124 - 1))) then (if (Int.tmod (wrap64 ((rd s0_5 t117) + (rd s0_5 t121))) (wrap64 (t124 - 1))) < (s0_4.length : Int) then (some (rd s0_4 (Int.tmod (wrap64 ((rd s0_5 t117) + (rd s0_5 t121))) (wrap64 (t124 - 1))), t122, t123, t124)) else (none)) else (none))) else (none)) else (none)) else (none)) else (none)))) = some (r1, r2, r3, r4) := H;have A5 := Q9a.mk A50;clear A50;by_cases c6 : t117 = 0
 ·rw [if_pos c6] at H;have c6b0 : (t117 == 0) = true := beq_iff_eq.mpr c6;have c6b1 : (t117 != 0) = false := bne_eq_false_iff_eq.mpr c6;clear c6;simp only [Option.some.injEq, Prod.mk.injEq] at H;obtain ⟨rfl, rfl, rfl, rfl⟩ := H;go_enter Try.func56, Try.ntmps56
  go_wp2_with (first | (go_at_call 86; (with_reducible refine (field_GF_in.calls g s0_0 s0_1 s0_2 s0_3 s0_4 s0_5 a1 t117 t118 t119 t120 w0 _ ?side1 ?side2 A4.out).mono ?_); (case side1 => repeat (first | (with_reducible first | exact HI0.out | apply IsS90.alloc | apply IsS90.drewN | apply IsS90.drew | apply IsS90.set_0 | apply IsS90.set_1 | apply IsS90.set_3) | exact HI0.out)); (case side2 => repeat (first | (with_reducible first | exact HB.out | apply bA | apply bN | apply bD | refine bS ?_ (IsS90.ge HI0.out)) | exact HB.out)); rintro e w7 ⟨rfl, hi, hb, hk⟩; have n0_ := Q9a.mk (KeepBut.trans (by repeat (first | (with_reducible first | exact HK.out | apply KeepBut.set_ | apply keep_drewN | apply keep_drew | apply keep_alloc) | exact HK.out)) hk (.inl rfl)); have n1_ := Q9a.mk (hb); have n2_ := Q9a.mk (hi); clear HK; clear HB; clear HI0; have HK := n0_; have HB := n1_; have HI0 := n2_; clear n0_ n1_ n2_; (try clear hb); (try clear hb2); (try clear hk); (try clear hi)) | (go_at_call 86; (with_reducible refine (field_GF_in.calls g t118 t119 s0_2 t120 s0_4 s0_5 a2 t121 t122 t123 t124 w0 _ ?side1 ?side2 A5.out).mono ?_); (case side1 => repeat (first | (with_reducible first | exact HI0.out | apply IsS90.alloc | apply IsS90.drewN | apply IsS90.drew | apply IsS90.set_0 | apply IsS90.set_1 | apply IsS90.set_3) | exact HI0.out)); (case side2 => repeat (first | (with_reducible first | exact HB.out | apply bA | apply bN | apply bD | refine bS ?_ (IsS90.ge HI0.out)) | exact HB.out)); rintro e w8 ⟨rfl, hi, hb, hk⟩; have n0_ := Q9a.mk (KeepBut.trans (by repeat (first | (with_reducible first | exact HK.out | apply KeepBut.set_ | apply keep_drewN | apply keep_drew | apply keep_alloc) | exact HK.out)) hk (.inl rfl)); have n1_ := Q9a.mk (hb); have n2_ := Q9a.mk (hi); clear HK; clear HB; clear HI0; have HK := n0_; have HB := n1_; have HI0 := n2_; clear n0_ n1_ n2_; (try clear hb); (try clear hb2); (try clear hk); (try clear hi)))
  repeat (go_quiet (first | (go_at_call 86; (with_reducible refine (field_GF_in.calls g s0_0 s0_1 s0_2 s0_3 s0_4 s0_5 a1 t117 t118 t119 t120 w0 _ ?side1 ?side2 A4.out).mono ?_); (case side1 => repeat (first | (with_reducible first | exact HI0.out | apply IsS90.alloc | apply IsS90.drewN | apply IsS90.drew | apply IsS90.set_0 | apply IsS90.set_1 | apply IsS90.set_3) | exact HI0.out)); (case side2 => repeat (first | (with_reducible first | exact HB.out | apply bA | apply bN | apply bD | refine bS ?_ (IsS90.ge HI0.out)) | exact HB.out)); rintro e w7 ⟨rfl, hi, hb, hk⟩; have n0_ := Q9a.mk (KeepBut.trans (by repeat (first | (with_reducible first | exact HK.out | apply KeepBut.set_ | apply keep_drewN | apply keep_drew | apply keep_alloc) | exact HK.out)) hk (.inl rfl)); have n1_ := Q9a.mk (hb); have n2_ := Q9a.mk (hi); clear HK; clear HB; clear HI0; have HK := n0_; have HB := n1_; have HI0 := n2_; clear n0_ n1_ n2_; (try clear hb); (try clear hb2); (try clear hk); (try clear hi)) | (go_at_call 86; (with_reducible refine (field_GF_in.calls g t118 t119 s0_2 t120 s0_4 s0_5 a2 t121 t122 t123 t124 w0 _ ?side1 ?side2 A5.out).mono ?_); (case side1 => repeat (first | (with_reducible first | exact HI0.out | apply IsS90.alloc | apply IsS90.drewN | apply IsS90.drew | apply IsS90.set_0 | apply IsS90.set_1 | apply IsS90.set_3) | exact HI0.out)); (case side2 => repeat (first | (with_reducible first | exact HB.out | apply bA | apply bN | apply bD | refine bS ?_ (IsS90.ge HI0.out)) | exact HB.out)); rintro e w8 ⟨rfl, hi, hb, hk⟩; have n0_ := Q9a.mk (KeepBut.trans (by repeat (first | (with_reducible first | exact HK.out | apply KeepBut.set_ | apply keep_drewN | apply keep_drew | apply keep_alloc) | exact HK.out)) hk (.inl rfl)); have n1_ := Q9a.mk (hb); have n2_ := Q9a.mk (hi); clear HK; clear HB; clear HI0; have HK := n0_; have HB := n1_; have HI0 := n2_; clear n0_ n1_ n2_; (try clear hb); (try clear hb2); (try clear hk); (try clear hi))); try go_wp2_with (first | (go_at_call 86; (with_reducible refine (field_GF_in.calls g s0_0 s0_1 s0_2 s0_3 s0_4 s0_5 a1 t117 t118 t119 t120 w0 _ ?side1 ?side2 A4.out).mono ?_); (case side1 => repeat (first | (with_reducible first | exact HI0.out | apply IsS90.alloc | apply IsS90.drewN | apply IsS90.drew | apply IsS90.set_0 | apply IsS90.set_1 | apply IsS90.set_3) | exact HI0.out)); (case side2 => repeat (first | (with_reducible first | exact HB.out | apply bA | apply bN | apply bD | refine bS ?_ (IsS90.ge HI0.out)) | exact HB.out)); rintro e w7 ⟨rfl, hi, hb, hk⟩; have n0_ := Q9a.mk (KeepBut.trans (by repeat (first | (with_reducible first | exact HK.out | apply KeepBut.set_ | apply keep_drewN | apply keep_drew | apply keep_alloc) | exact HK.out)) hk (.inl rfl)); have n1_ := Q9a.mk (hb); have n2_ := Q9a.mk (hi); clear HK; clear HB; clear HI0; have HK := n0_; have HB := n1_; have HI0 := n2_; clear n0_ n1_ n2_; (try clear hb); (try clear hb2); (try clear hk); (try clear hi)) | (go_at_call 86; (with_reducible refine (field_GF_in.calls g t118 t119 s0_2 t120 s0_4 s0_5 a2 t121 t122 t123 t124 w0 _ ?side1 ?side2 A5.out).mono ?_); (case side1 => repeat (first | (with_reducible first | exact HI0.out | apply IsS90.alloc | apply IsS90.drewN | apply IsS90.drew | apply IsS90.set_0 | apply IsS90.set_1 | apply IsS90.set_3) | exact HI0.out)); (case side2 => repeat (first | (with_reducible first | exact HB.out | apply bA | apply bN | apply bD | refine bS ?_ (IsS90.ge HI0.out)) | exact HB.out)); rintro e w8 ⟨rfl, hi, hb, hk⟩; have n0_ := Q9a.mk (KeepBut.trans (by repeat (first | (with_reducible first | exact HK.out | apply KeepBut.set_ | apply keep_drewN | apply keep_drew | apply keep_alloc) | exact HK.out)) hk (.inl rfl)); have n1_ := Q9a.mk (hb); have n2_ := Q9a.mk (hi); clear HK; clear HB; clear HI0; have HK := n0_; have HB := n1_; have HI0 := n2_; clear n0_ n1_ n2_; (try clear hb); (try clear hb2); (try clear hk); (try clear hi))))
  go_ret
  exact ⟨by first | rfl | (simp [*, eN, eS] <;> rfl), by repeat (first | (with_reducible first | exact HI0.out | apply IsS90.alloc | apply IsS90.drewN | apply IsS90.drew | apply IsS90.set_0 | apply IsS90.set_1 | apply IsS90.set_3) | exact HI0.out), by repeat (first | (with_reducible first | exact HB.out | apply bA | apply bN | apply bD | refine bS ?_ (IsS90.ge HI0.out)) | exact HB.out), by repeat (first | (with_reducible first | exact HK.out | apply KeepBut.set_ | apply keep_drewN | apply keep_drew | apply keep_alloc) | exact HK.out)⟩
 rw [if_neg c6] at H;have c6b0 : (t117 == 0) = false := beq_eq_false_iff_ne.mpr c6;have c6b1 : (t117 != 0) = true := bne_iff_ne.mpr c6;by_cases c9 : t121 = 0
 ·rw [if_pos c9] at H;have c9b0 : (t121 == 0) = true := beq_iff_eq.mpr c9;have c9b1 : (t121 != 0) = false := bne_eq_false_iff_eq.mpr c9;clear c9;simp only [Option.some.injEq, Prod.mk.injEq] at H;obtain ⟨rfl, rfl, rfl, rfl⟩ := H;go_enter Try.func56, Try.ntmps56
  go_wp2_with (first | (go_at_call 86; (with_reducible refine (field_GF_in.calls g s0_0 s0_1 s0_2 s0_3 s0_4 s0_5 a1 t117 t118 t119 t120 w0 _ ?side1 ?side2 A4.out).mono ?_); (case side1 => repeat (first | (with_reducible first | exact HI0.out | apply IsS90.alloc | apply IsS90.drewN | apply IsS90.drew | apply IsS90.set_0 | apply IsS90.set_1 | apply IsS90.set_3) | exact HI0.out)); (case side2 => repeat (first | (with_reducible first | exact HB.out | apply bA | apply bN | apply bD | refine bS ?_ (IsS90.ge HI0.out)) | exact HB.out)); rintro e w10 ⟨rfl, hi, hb, hk⟩; have n0_ := Q9a.mk (KeepBut.trans (by repeat (first | (with_reducible first | exact HK.out | apply KeepBut.set_ | apply keep_drewN | apply keep_drew | apply keep_alloc) | exact HK.out)) hk (.inl rfl)); have n1_ := Q9a.mk (hb); have n2_ := Q9a.mk (hi); clear HK; clear HB; clear HI0; have HK := n0_; have HB := n1_; have HI0 := n2_; clear n0_ n1_ n2_; (try clear hb); (try clear hb2); (try clear hk); (try clear hi)) | (go_at_call 86; (with_reducible refine (field_GF_in.calls g t118 t119 s0_2 t120 s0_4 s0_5 a2 t121 t122 t123 t124 w0 _ ?side1 ?side2 A5.out).mono ?_); (case side1 => repeat (first | (with_reducible first | exact HI0.out | apply IsS90.alloc | apply IsS90.drewN | apply IsS90.drew | apply IsS90.set_0 | apply IsS90.set_1 | apply IsS90.set_3) | exact HI0.out)); (case side2 => repeat (first | (with_reducible first | exact HB.out | apply bA | apply bN | apply bD | refine bS ?_ (IsS90.ge HI0.out)) | exact HB.out)); rintro e w11 ⟨rfl, hi, hb, hk⟩; have n0_ := Q9a.mk (KeepBut.trans (by repeat (first | (with_reducible first | exact HK.out | apply KeepBut.set_ | apply keep_drewN | apply keep_drew | apply keep_alloc) | exact HK.out)) hk (.inl rfl)); have n1_ := Q9a.mk (hb); have n2_ := Q9a.mk (hi); clear HK; clear HB; clear HI0; have HK := n0_; have HB := n1_; have HI0 := n2_; clear n0_ n1_ n2_; (try clear hb); (try clear hb2); (try clear hk); (try clear hi)))
  repeat (go_quiet (first | (go_at_call 86; (with_reducible refine (field_GF_in.calls g s0_0 s0_1 s0_2 s0_3 s0_4 s0_5 a1 t117 t118 t119 t120 w0 _ ?side1 ?side2 A4.out).mono ?_); (case side1 => repeat (first | (with_reducible first | exact HI0.out | apply IsS90.alloc | apply IsS90.drewN | apply IsS90.drew | apply IsS90.set_0 | apply IsS90.set_1 | apply IsS90.set_3) | exact HI0.out)); (case side2 => repeat (first | (with_reducible first | exact HB.out | apply bA | apply bN | apply bD | refine bS ?_ (IsS90.ge HI0.out)) | exact HB.out)); rintro e w10 ⟨rfl, hi, hb, hk⟩; have n0_ := Q9a.mk (KeepBut.trans (by repeat (first | (with_reducible first | exact HK.out | apply KeepBut.set_ | apply keep_drewN | apply keep_drew | apply keep_alloc) | exact HK.out)) hk (.inl rfl)); have n1_ := Q9a.mk (hb); have n2_ := Q9a.mk (hi); clear HK; clear HB; clear HI0; have HK := n0_; have HB := n1_; have HI0 := n2_; clear n0_ n1_ n2_; (try clear hb); (try clear hb2); (try clear hk); (try clear hi)) | (go_at_call 86; (with_reducible refine (field_GF_in.calls g t118 t119 s0_2 t120 s0_4 s0_5 a2 t121 t122 t123 t124 w0 _ ?side1 ?side2 A5.out).mono ?_); (case side1 => repeat (first | (with_reducible first | exact HI0.out | apply IsS90.alloc | apply IsS90.drewN | apply IsS90.drew | apply IsS90.set_0 | apply IsS90.set_1 | apply IsS90.set_3) | exact HI0.out)); (case side2 => repeat (first | (with_reducible first | exact HB.out | apply bA | apply bN | apply bD | refine bS ?_ (IsS90.ge HI0.out)) | exact HB.out)); rintro e w11 ⟨rfl, hi, hb, hk⟩; have n0_ := Q9a.mk (KeepBut.trans (by repeat (first | (with_reducible first | exact HK.out | apply KeepBut.set_ | apply keep_drewN | apply keep_drew | apply keep_alloc) | exact HK.out)) hk (.inl rfl)); have n1_ := Q9a.mk (hb); have n2_ := Q9a.mk (hi); clear HK; clear HB; clear HI0; have HK := n0_; have HB := n1_; have HI0 := n2_; clear n0_ n1_ n2_; (try clear hb); (try clear hb2); (try clear hk); (try clear hi))); try go_wp2_with (first | (go_at_call 86; (with_reducible refine (field_GF_in.calls g s0_0 s0_1 s0_2 s0_3 s0_4 s0_5 a1 t117 t118 t119 t120 w0 _ ?side1 ?side2 A4.out).mono ?_); (case side1 => repeat (first | (with_reducible first | exact HI0.out | apply IsS90.alloc | apply IsS90.drewN | apply IsS90.drew | apply IsS90.set_0 | apply IsS90.set_1 | apply IsS90.set_3) | exact HI0.out)); (case side2 => repeat (first | (with_reducible first | exact HB.out | apply bA | apply bN | apply bD | refine bS ?_ (IsS90.ge HI0.out)) | exact HB.out)); rintro e w10 ⟨rfl, hi, hb, hk⟩; have n0_ := Q9a.mk (KeepBut.trans (by repeat (first | (with_reducible first | exact HK.out | apply KeepBut.set_ | apply keep_drewN | apply keep_drew | apply keep_alloc) | exact HK.out)) hk (.inl rfl)); have n1_ := Q9a.mk (hb); have n2_ := Q9a.mk (hi); clear HK; clear HB; clear HI0; have HK := n0_; have HB := n1_; have HI0 := n2_; clear n0_ n1_ n2_; (try clear hb); (try clear hb2); (try clear hk); (try clear hi)) | (go_at_call 86; (with_reducible refine (field_GF_in.calls g t118 t119 s0_2 t120 s0_4 s0_5 a2 t121 t122 t123 t124 w0 _ ?side1 ?side2 A5.out).mono ?_); (case side1 => repeat (first | (with_reducible first | exact HI0.out | apply IsS90.alloc | apply IsS90.drewN | apply IsS90.drew | apply IsS90.set_0 | apply IsS90.set_1 | apply IsS90.set_3) | exact HI0.out)); (case side2 => repeat (first | (with_reducible first | exact HB.out | apply bA | apply bN | apply bD | refine bS ?_ (IsS90.ge HI0.out)) | exact HB.out)); rintro e w11 ⟨rfl, hi, hb, hk⟩; have n0_ := Q9a.mk (KeepBut.trans (by repeat (first | (with_reducible first | exact HK.out | apply KeepBut.set_ | apply keep_drewN | apply keep_drew | apply keep_alloc) | exact HK.out)) hk (.inl rfl)); have n1_ := Q9a.mk (hb); have n2_ := Q9a.mk (hi); clear HK; clear HB; clear HI0; have HK := n0_; have HB := n1_; have HI0 := n2_; clear n0_ n1_ n2_; (try clear hb); (try clear hb2); (try clear hk); (try clear hi))))
  go_ret
  exact ⟨by first | rfl | (simp [*, eN, eS] <;> rfl), by repeat (first | (with_reducible first | exact HI0.out | apply IsS90.alloc | apply IsS90.drewN | apply IsS90.drew | apply IsS90.set_0 | apply IsS90.set_1 | apply IsS90.set_3) | exact HI0.out), by repeat (first | (with_reducible first | exact HB.out | apply bA | apply bN | apply bD | refine bS ?_ (IsS90.ge HI0.out)) | exact HB.out), by repeat (first | (with_reducible first | exact HK.out | apply KeepBut.set_ | apply keep_drewN | apply keep_drew | apply keep_alloc) | exact HK.out)⟩
 rw [if_neg c9] at H;have c9b0 : (t121 == 0) = false := beq_eq_false_iff_ne.mpr c9;have c9b1 : (t121 != 0) = true := bne_iff_ne.mpr c9;by_cases c12 : 0 ≤ t117
 ·rw [if_pos c12] at H;have c12b0 : decide (0 ≤ t117) = true := decide_eq_true c12;clear c12;by_cases c13 : t117 < (s0_5.length : Int)
  ·rw [if_pos c13] at H;have c13b0 : decide (t117 < (s0_5.length : Int)) = true := decide_eq_true c13;clear c13;by_cases c14 : 0 ≤ t121
   ·rw [if_pos c14] at H;have c14b0 : decide (0 ≤ t121) = true := decide_eq_true c14;clear c14;by_cases c15 : t121 < (s0_5.length : Int)
    ·rw [if_pos c15] at H;have c15b0 : decide (t121 < (s0_5.length : Int)) = true := decide_eq_true c15;clear c15;by_cases c16 : (wrap64 (t124 - 1)) = 0
     ·rw [if_pos c16] at H;exact absurd H (by simp)
     rw [if_neg c16] at H;have c16b0 : ((wrap64 (t124 - 1)) == 0) = false := beq_eq_false_iff_ne.mpr c16;have c16b1 : ((wrap64 (t124 - 1)) != 0) = true := bne_iff_ne.mpr c16;obtain ⟨ji17, hji17⟩ : ∃ j_ : Int, (Int.tmod (wrap64 ((rd s0_5 t117) + (rd s0_5 t121))) (wrap64 (t124 - 1))) = j_ := ⟨_, rfl⟩;replace H : (if 0 ≤ (ji17) then (if (ji17) < (s0_4.length : Int) then (some (rd s0_4 (ji17), t122, t123, t124)) else (none)) else (none)) = some (r1, r2, r3, r4) := by first | (rw [hji17] at H; exact H) | (simp only [hji17] at H ⊢; exact H)
     (try rw [hji17] at A4)
     (try rw [hji17] at A5)
     by_cases c18 : 0 ≤ (ji17)
     ·rw [if_pos c18] at H;have c18b0 : decide (0 ≤ (ji17)) = true := decide_eq_true c18;clear c18;by_cases c19 : (ji17) < (s0_4.length : Int)
      ·rw [if_pos c19] at H;have c19b0 : decide ((ji17) < (s0_4.length : Int)) = true := decide_eq_true c19;clear c19;simp only [Option.some.injEq, Prod.mk.injEq] at H;obtain ⟨rfl, rfl, rfl, rfl⟩ := H;go_enter Try.func56, Try.ntmps56
       go_wp2_with (first | (go_at_call 86; (with_reducible refine (field_GF_in.calls g s0_0 s0_1 s0_2 s0_3 s0_4 s0_5 a1 t117 t118 t119 t120 w0 _ ?side1 ?side2 A4.out).mono ?_); (case side1 => repeat (first | (with_reducible first | exact HI0.out | apply IsS90.alloc | apply IsS90.drewN | apply IsS90.drew | apply IsS90.set_0 | apply IsS90.set_1 | apply IsS90.set_3) | exact HI0.out)); (case side2 => repeat (first | (with_reducible first | exact HB.out | apply bA | apply bN | apply bD | refine bS ?_ (IsS90.ge HI0.out)) | exact HB.out)); rintro e w20 ⟨rfl, hi, hb, hk⟩; have n0_ := Q9a.mk (KeepBut.trans (by repeat (first | (with_reducible first | exact HK.out | apply KeepBut.set_ | apply keep_drewN | apply keep_drew | apply keep_alloc) | exact HK.out)) hk (.inl rfl)); have n1_ := Q9a.mk (hb); have n2_ := Q9a.mk (hi); clear HK; clear HB; clear HI0; have HK := n0_; have HB := n1_; have HI0 := n2_; clear n0_ n1_ n2_; (try clear hb); (try clear hb2); (try clear hk); (try clear hi)) | (go_at_call 86; (with_reducible refine (field_GF_in.calls g t118 t119 s0_2 t120 s0_4 s0_5 a2 t121 t122 t123 t124 w0 _ ?side1 ?side2 A5.out).mono ?_); (case side1 => repeat (first | (with_reducible first | exact HI0.out | apply IsS90.alloc | apply IsS90.drewN | apply IsS90.drew | apply IsS90.set_0 | apply IsS90.set_1 | apply IsS90.set_3) | exact HI0.out)); (case side2 => repeat (first | (with_reducible first | exact HB.out | apply bA | apply bN | apply bD | refine bS ?_ (IsS90.ge HI0.out)) | exact HB.out)); rintro e w21 ⟨rfl, hi, hb, hk⟩; have n0_ := Q9a.mk (KeepBut.trans (by repeat (first | (with_reducible first | exact HK.out | apply KeepBut.set_ | apply keep_drewN | apply keep_drew | apply keep_alloc) | exact HK.out)) hk (.inl rfl)); have n1_ := Q9a.mk (hb); have n2_ := Q9a.mk (hi); clear HK; clear HB; clear HI0; have HK := n0_; have HB := n1_; have HI0 := n2_; clear n0_ n1_ n2_; obtain ⟨ASz22_2, cSz22_2, ASz22_4, cSz22_4, ASz22_5, cSz22_5, HGz22, hgz22, HSz22_2, HSz22_4, HSz22_5⟩ := HI0.out; have hcz22_0 := cellS90_0 HGz22; have hcz22_1 := cellS90_1 HGz22; have hcz22_2 := cellS90_2 HGz22; have hcz22_3 := cellS90_3 HGz22; have hcz22_4 := cellS90_4 HGz22; have hcz22_5 := cellS90_5 HGz22; have hfz22_0 := kF HGz22 0; have hfz22_1 := kF HGz22 1; have hfz22_3 := kF HGz22 3; clear HGz22 hgz22; have p125 : 0 ≤ (t117 : Int) := of_decide_eq_true (by first | (with_reducible assumption) | assumption); have q125 : t117 < (s0_5.length : Int) := of_decide_eq_true (by first | (with_reducible assumption) | assumption); obtain ⟨ad125, e125, hx125_0⟩ := Kd.at_int HSz22_5 t117 p125 q125; cases e125; replace hx125_0 := pw_cell_below HB.out hx125_0; replace p125 := eq_true p125; replace q125 := eq_true q125; have p126 : 0 ≤ (t121 : Int) := of_decide_eq_true (by first | (with_reducible assumption) | assumption); have q126 : t121 < (s0_5.length : Int) := of_decide_eq_true (by first | (with_reducible assumption) | assumption); obtain ⟨ad126, e126, hx126_0⟩ := Kd.at_int HSz22_5 t121 p126 q126; obtain rfl : ad125 = ad126 := (by injection e126); replace hx126_0 := pw_cell_below HB.out hx126_0; replace p126 := eq_true p126; replace q126 := eq_true q126; have p127 : 0 ≤ ((ji17) : Int) := of_decide_eq_true (by first | (with_reducible assumption) | assumption); have q127 : (ji17) < (s0_4.length : Int) := of_decide_eq_true (by first | (with_reducible assumption) | assumption); obtain ⟨ad127, e127, hx127_0⟩ := Kd.at_int HSz22_4 (ji17) p127 q127; cases e127; replace hx127_0 := pw_cell_below HB.out hx127_0; replace p127 := eq_true p127; replace q127 := eq_true q127))
       repeat (go_quiet (first | (go_at_call 86; (with_reducible refine (field_GF_in.calls g s0_0 s0_1 s0_2 s0_3 s0_4 s0_5 a1 t117 t118 t119 t120 w0 _ ?side1 ?side2 A4.out).mono ?_); (case side1 => repeat (first | (with_reducible first | exact HI0.out | apply IsS90.alloc | apply IsS90.drewN | apply IsS90.drew | apply IsS90.set_0 | apply IsS90.set_1 | apply IsS90.set_3) | exact HI0.out)); (case side2 => repeat (first | (with_reducible first | exact HB.out | apply bA | apply bN | apply bD | refine bS ?_ (IsS90.ge HI0.out)) | exact HB.out)); rintro e w20 ⟨rfl, hi, hb, hk⟩; have n0_ := Q9a.mk (KeepBut.trans (by repeat (first | (with_reducible first | exact HK.out | apply KeepBut.set_ | apply keep_drewN | apply keep_drew | apply keep_alloc) | exact HK.out)) hk (.inl rfl)); have n1_ := Q9a.mk (hb); have n2_ := Q9a.mk (hi); clear HK; clear HB; clear HI0; have HK := n0_; have HB := n1_; have HI0 := n2_; clear n0_ n1_ n2_; (try clear hb); (try clear hb2); (try clear hk); (try clear hi)) | (go_at_call 86; (with_reducible refine (field_GF_in.calls g t118 t119 s0_2 t120 s0_4 s0_5 a2 t121 t122 t123 t124 w0 _ ?side1 ?side2 A5.out).mono ?_); (case side1 => repeat (first | (with_reducible first | exact HI0.out | apply IsS90.alloc | apply IsS90.drewN | apply IsS90.drew | apply IsS90.set_0 | apply IsS90.set_1 | apply IsS90.set_3) | exact HI0.out)); (case side2 => repeat (first | (with_reducible first | exact HB.out | apply bA | apply bN | apply bD | refine bS ?_ (IsS90.ge HI0.out)) | exact HB.out)); rintro e w21 ⟨rfl, hi, hb, hk⟩; have n0_ := Q9a.mk (KeepBut.trans (by repeat (first | (with_reducible first | exact HK.out | apply KeepBut.set_ | apply keep_drewN | apply keep_drew | apply keep_alloc) | exact HK.out)) hk (.inl rfl)); have n1_ := Q9a.mk (hb); have n2_ := Q9a.mk (hi); clear HK; clear HB; clear HI0; have HK := n0_; have HB := n1_; have HI0 := n2_; clear n0_ n1_ n2_; obtain ⟨ASz22_2, cSz22_2, ASz22_4, cSz22_4, ASz22_5, cSz22_5, HGz22, hgz22, HSz22_2, HSz22_4, HSz22_5⟩ := HI0.out; have hcz22_0 := cellS90_0 HGz22; have hcz22_1 := cellS90_1 HGz22; have hcz22_2 := cellS90_2 HGz22; have hcz22_3 := cellS90_3 HGz22; have hcz22_4 := cellS90_4 HGz22; have hcz22_5 := cellS90_5 HGz22; have hfz22_0 := kF HGz22 0; have hfz22_1 := kF HGz22 1; have hfz22_3 := kF HGz22 3; clear HGz22 hgz22; have p125 : 0 ≤ (t117 : Int) := of_decide_eq_true (by first | (with_reducible assumption) | assumption); have q125 : t117 < (s0_5.length : Int) := of_decide_eq_true (by first | (with_reducible assumption) | assumption); obtain ⟨ad125, e125, hx125_0⟩ := Kd.at_int HSz22_5 t117 p125 q125; cases e125; replace hx125_0 := pw_cell_below HB.out hx125_0; replace p125 := eq_true p125; replace q125 := eq_true q125; have p126 : 0 ≤ (t121 : Int) := of_decide_eq_true (by first | (with_reducible assumption) | assumption); have q126 : t121 < (s0_5.length : Int) := of_decide_eq_true (by first | (with_reducible assumption) | assumption); obtain ⟨ad126, e126, hx126_0⟩ := Kd.at_int HSz22_5 t121 p126 q126; obtain rfl : ad125 = ad126 := (by injection e126); replace hx126_0 := pw_cell_below HB.out hx126_0; replace p126 := eq_true p126; replace q126 := eq_true q126; have p127 : 0 ≤ ((ji17) : Int) := of_decide_eq_true (by first | (with_reducible assumption) | assumption); have q127 : (ji17) < (s0_4.length : Int) := of_decide_eq_true (by first | (with_reducible assumption) | assumption); obtain ⟨ad127, e127, hx127_0⟩ := Kd.at_int HSz22_4 (ji17) p127 q127; cases e127; replace hx127_0 := pw_cell_below HB.out hx127_0; replace p127 := eq_true p127; replace q127 := eq_true q127)); try go_wp2_with (first | (go_at_call 86; (with_reducible refine (field_GF_in.calls g s0_0 s0_1 s0_2 s0_3 s0_4 s0_5 a1 t117 t118 t119 t120 w0 _ ?side1 ?side2 A4.out).mono ?_); (case side1 => repeat (first | (with_reducible first | exact HI0.out | apply IsS90.alloc | apply IsS90.drewN | apply IsS90.drew | apply IsS90.set_0 | apply IsS90.set_1 | apply IsS90.set_3) | exact HI0.out)); (case side2 => repeat (first | (with_reducible first | exact HB.out | apply bA | apply bN | apply bD | refine bS ?_ (IsS90.ge HI0.out)) | exact HB.out)); rintro e w20 ⟨rfl, hi, hb, hk⟩; have n0_ := Q9a.mk (KeepBut.trans (by repeat (first | (with_reducible first | exact HK.out | apply KeepBut.set_ | apply keep_drewN | apply keep_drew | apply keep_alloc) | exact HK.out)) hk (.inl rfl)); have n1_ := Q9a.mk (hb); have n2_ := Q9a.mk (hi); clear HK; clear HB; clear HI0; have HK := n0_; have HB := n1_; have HI0 := n2_; clear n0_ n1_ n2_; (try clear hb); (try clear hb2); (try clear hk); (try clear hi)) | (go_at_call 86; (with_reducible refine (field_GF_in.calls g t118 t119 s0_2 t120 s0_4 s0_5 a2 t121 t122 t123 t124 w0 _ ?side1 ?side2 A5.out).mono ?_); (case side1 => repeat (first | (with_reducible first | exact HI0.out | apply IsS90.alloc | apply IsS90.drewN | apply IsS90.drew | apply IsS90.set_0 | apply IsS90.set_1 | apply IsS90.set_3) | exact HI0.out)); (case side2 => repeat (first | (with_reducible first | exact HB.out | apply bA | apply bN | apply bD | refine bS ?_ (IsS90.ge HI0.out)) | exact HB.out)); rintro e w21 ⟨rfl, hi, hb, hk⟩; have n0_ := Q9a.mk (KeepBut.trans (by repeat (first | (with_reducible first | exact HK.out | apply KeepBut.set_ | apply keep_drewN | apply keep_drew | apply keep_alloc) | exact HK.out)) hk (.inl rfl)); have n1_ := Q9a.mk (hb); have n2_ := Q9a.mk (hi); clear HK; clear HB; clear HI0; have HK := n0_; have HB := n1_; have HI0 := n2_; clear n0_ n1_ n2_; obtain ⟨ASz22_2, cSz22_2, ASz22_4, cSz22_4, ASz22_5, cSz22_5, HGz22, hgz22, HSz22_2, HSz22_4, HSz22_5⟩ := HI0.out; have hcz22_0 := cellS90_0 HGz22; have hcz22_1 := cellS90_1 HGz22; have hcz22_2 := cellS90_2 HGz22; have hcz22_3 := cellS90_3 HGz22; have hcz22_4 := cellS90_4 HGz22; have hcz22_5 := cellS90_5 HGz22; have hfz22_0 := kF HGz22 0; have hfz22_1 := kF HGz22 1; have hfz22_3 := kF HGz22 3; clear HGz22 hgz22; have p125 : 0 ≤ (t117 : Int) := of_decide_eq_true (by first | (with_reducible assumption) | assumption); have q125 : t117 < (s0_5.length : Int) := of_decide_eq_true (by first | (with_reducible assumption) | assumption); obtain ⟨ad125, e125, hx125_0⟩ := Kd.at_int HSz22_5 t117 p125 q125; cases e125; replace hx125_0 := pw_cell_below HB.out hx125_0; replace p125 := eq_true p125; replace q125 := eq_true q125; have p126 : 0 ≤ (t121 : Int) := of_decide_eq_true (by first | (with_reducible assumption) | assumption); have q126 : t121 < (s0_5.length : Int) := of_decide_eq_true (by first | (with_reducible assumption) | assumption); obtain ⟨ad126, e126, hx126_0⟩ := Kd.at_int HSz22_5 t121 p126 q126; obtain rfl : ad125 = ad126 := (by injection e126); replace hx126_0 := pw_cell_below HB.out hx126_0; replace p126 := eq_true p126; replace q126 := eq_true q126; have p127 : 0 ≤ ((ji17) : Int) := of_decide_eq_true (by first | (with_reducible assumption) | assumption); have q127 : (ji17) < (s0_4.length : Int) := of_decide_eq_true (by first | (with_reducible assumption) | assumption); obtain ⟨ad127, e127, hx127_0⟩ := Kd.at_int HSz22_4 (ji17) p127 q127; cases e127; replace hx127_0 := pw_cell_below HB.out hx127_0; replace p127 := eq_true p127; replace q127 := eq_true q127)))
       go_ret
       exact ⟨by first | rfl | (simp [eN, eS] <;> rfl) | (simp only [← hji17]; first | rfl | (simp [eN, eS] <;> rfl)) | (simp [*, eN, eS] <;> rfl), by repeat (first | (with_reducible first | exact HI0.out | apply IsS90.alloc | apply IsS90.drewN | apply IsS90.drew | apply IsS90.set_0 | apply IsS90.set_1 | apply IsS90.set_3) | exact HI0.out), by repeat (first | (with_reducible first | exact HB.out | apply bA | apply bN | apply bD | refine bS ?_ (IsS90.ge HI0.out)) | exact HB.out), by repeat (first | (with_reducible first | exact HK.out | apply KeepBut.set_ | apply keep_drewN | apply keep_drew | apply keep_alloc) | exact HK.out)⟩
      rw [if_neg c19] at H;exact absurd H (by simp)
     rw [if_neg c18] at H;exact absurd H (by simp)
    rw [if_neg c15] at H;exact absurd H (by simp)
   rw [if_neg c14] at H;exact absurd H (by simp)
  rw [if_neg c13] at H;exact absurd H (by simp)
 rw [if_neg c12] at H;exact absurd H (by simp)
def field_GF_Inv.f (s0_0 : Int) (s0_1 : Int) (s0_2 : List Int) (s0_3 : Int) (s0_4 : List Int) (s0_5 : List Int) (a1 : Int) : Option (Int × Int × Int × Int × Int) := (field_GF_in.f s0_0 s0_1 s0_2 s0_3 s0_4 s0_5 a1).bind fun bt128 => (if bt128.1 = 0 then (some (0, 7, bt128.2.1, bt128.2.2.1, bt128.2.2.2)) else (if 0 ≤ bt128.1 then (if bt128.1 < (s0_5.length : Int) then (if (wrap64 (bt128.2.2.2 - 1)) = 0 then (none) else (if 0 ≤ (Int.tmod (wrap64 ((wrap64 (bt128.2.2.2 - 1)) - (rd s0_5 bt128.1))) (wrap64 (bt128.2.2.2 - 1))) then (if (Int.tmod (wrap64 ((wrap64 (bt128.2.2.2 - 1)) - (rd s0_5 bt128.1))) (wrap64 (bt128.2.2.2 - 1))) < (s0_4.length : Int) then (some (rd s0_4 (Int.tmod (wrap64 ((wrap64 (bt128.2.2.2 - 1)) - (rd s0_5 bt128.1))) (wrap64 (bt128.2.2.2 - 1))), 0, bt128.2.1, bt128.2.2.1, bt128.2.2.2)) else (none)) else (none))) else (none)) else (none)))
theorem field_GF_Inv.calls (g : Nat) (s0_0 : Int) (s0_1 : Int) (s0_2 : List Int) (s0_3 : Int) (s0_4 : List Int) (s0_5 : List Int) (a1 : Int) (r1 : Int) (r2 : Int) (r3 : Int) (r4 : Int) (r5 : Int) (w0 w : World) (hI : IsS90 w0 w g s0_0 s0_1 s0_2 s0_3 s0_4 s0_5) (hB : Below w0.heap.size w0 w) (h : field_GF_Inv.f s0_0 s0_1 s0_2 s0_3 s0_4 s0_5 a1 = some (r1, r2, r3, r4, r5)) :
  Calls Try.prog 68 #[.pointer (some ⟨g, 0, none⟩), .int .i64 a1] w fun e w' => e = .returned (.tuple #[.int .i64 r1, .int .i64 r2]) ∧ IsS90 w0 w' g r3 r4 s0_2 r5 s0_4 s0_5 ∧ Below w0.heap.size w0 w' ∧ KeepBut w w' g none := by
 have HI0 := Q9a.mk hI;have HK := Q9a.mk (KeepBut.refl w g none);have HL := Q9a.mk hB.size;clear hI;have HW0 := Q9a.mk hB.size;have HB := Q9a.mk hB;clear hB;have H : ((field_GF_in.f s0_0 s0_1 s0_2 s0_3 s0_4 s0_5 a1).bind fun bt128 => (if bt128.1 = 0 then (some (0, 7, bt128.2.1, bt128.2.2.1, bt128.2.2.2)) else (if 0 ≤ bt128.1 then (if bt128.1 < (s0_5.length : Int) then (if (wrap64 (bt128.2.2.2 - 1)) = 0 then (none) else (if 0 ≤ (Int.tmod (wrap64 ((wrap64 (bt128.2.2.2 - 1)) - (rd s0_5 bt128.1))) (wrap64 (bt128.2.2.2 - 1))) then (if (Int.tmod (wrap64 ((wrap64 (bt128.2.2.2 - 1)) - (rd s0_5 bt128.1))) (wrap64 (bt128.2.2.2 - 1))) < (s0_4.length : Int) then (some (rd s0_4 (Int.tmod (wrap64 ((wrap64 (bt128.2.2.2 - 1)) - (rd s0_5 bt128.1))) (wrap64 (bt128.2.2.2 - 1))), 0, bt128.2.1, bt128.2.2.1, bt128.2.2.2)) else (none)) else (none))) else (none)) else (none)))) = some (r1, r2, r3, r4, r5) := h;clear h;replace H := Option.bind_eq_some_iff.mp H;obtain ⟨⟨t128, t129, t130, t131⟩, A30, H⟩ := H;replace H : (if t128 = 0 then (some (0, 7, t129, t130, t131)) else (if 0 ≤ t128 then (if t128 < (s0_5.length : Int) then (if (wrap64 (t131 - 1)) = 0 then (none) else (if 0 ≤ (Int.tmod (wrap64 ((wrap64 (t131 - 1)) - (rd s0_5 t128))) (wrap64 (t131 - 1))) then (if (Int.tmod (wrap64 ((wrap64 (t131 - 1)) - (rd s0_5 t128))) (wrap64 (t131 - 1))) < (s0_4.length : Int) then (some (rd s0_4 (Int.tmod (wrap64 ((wrap64 (t131 - 1)) - (rd s0_5 t128))) (wrap64 (t131 - 1))), 0, t129, t130, t131)) else (none)) else (none))) else (none)) else (none))) = some (r1, r2, r3, r4, r5) := H;have A3 := Q9a.mk A30;clear A30;by_cases c4 : t128 = 0
 ·rw [if_pos c4] at H;have c4b0 : (t128 == 0) = true := beq_iff_eq.mpr c4;have c4b1 : (t128 != 0) = false := bne_eq_false_iff_eq.mpr c4;clear c4;simp only [Option.some.injEq, Prod.mk.injEq] at H;obtain ⟨rfl, rfl, rfl, rfl, rfl⟩ := H;go_enter Try.func68, Try.ntmps68
  go_wp2_with (first | (go_at_call 86; (with_reducible refine (field_GF_in.calls g s0_0 s0_1 s0_2 s0_3 s0_4 s0_5 a1 t128 t129 t130 t131 w0 _ ?side1 ?side2 A3.out).mono ?_); (case side1 => repeat (first | (with_reducible first | exact HI0.out | apply IsS90.alloc | apply IsS90.drewN | apply IsS90.drew | apply IsS90.set_0 | apply IsS90.set_1 | apply IsS90.set_3) | exact HI0.out)); (case side2 => repeat (first | (with_reducible first | exact HB.out | apply bA | apply bN | apply bD | refine bS ?_ (IsS90.ge HI0.out)) | exact HB.out)); rintro e w5 ⟨rfl, hi, hb, hk⟩; have n0_ := Q9a.mk (KeepBut.trans (by repeat (first | (with_reducible first | exact HK.out | apply KeepBut.set_ | apply keep_drewN | apply keep_drew | apply keep_alloc) | exact HK.out)) hk (.inl rfl)); have n1_ := Q9a.mk (hb); have n2_ := Q9a.mk (hi); clear HK; clear HB; clear HI0; have HK := n0_; have HB := n1_; have HI0 := n2_; clear n0_ n1_ n2_; (try clear hb); (try clear hb2); (try clear hk); (try clear hi)))
  repeat (go_quiet (first | (go_at_call 86; (with_reducible refine (field_GF_in.calls g s0_0 s0_1 s0_2 s0_3 s0_4 s0_5 a1 t128 t129 t130 t131 w0 _ ?side1 ?side2 A3.out).mono ?_); (case side1 => repeat (first | (with_reducible first | exact HI0.out | apply IsS90.alloc | apply IsS90.drewN | apply IsS90.drew | apply IsS90.set_0 | apply IsS90.set_1 | apply IsS90.set_3) | exact HI0.out)); (case side2 => repeat (first | (with_reducible first | exact HB.out | apply bA | apply bN | apply bD | refine bS ?_ (IsS90.ge HI0.out)) | exact HB.out)); rintro e w5 ⟨rfl, hi, hb, hk⟩; have n0_ := Q9a.mk (KeepBut.trans (by repeat (first | (with_reducible first | exact HK.out | apply KeepBut.set_ | apply keep_drewN | apply keep_drew | apply keep_alloc) | exact HK.out)) hk (.inl rfl)); have n1_ := Q9a.mk (hb); have n2_ := Q9a.mk (hi); clear HK; clear HB; clear HI0; have HK := n0_; have HB := n1_; have HI0 := n2_; clear n0_ n1_ n2_; (try clear hb); (try clear hb2); (try clear hk); (try clear hi))); try go_wp2_with (first | (go_at_call 86; (with_reducible refine (field_GF_in.calls g s0_0 s0_1 s0_2 s0_3 s0_4 s0_5 a1 t128 t129 t130 t131 w0 _ ?side1 ?side2 A3.out).mono ?_); (case side1 => repeat (first | (with_reducible first | exact HI0.out | apply IsS90.alloc | apply IsS90.drewN | apply IsS90.drew | apply IsS90.set_0 | apply IsS90.set_1 | apply IsS90.set_3) | exact HI0.out)); (case side2 => repeat (first | (with_reducible first | exact HB.out | apply bA | apply bN | apply bD | refine bS ?_ (IsS90.ge HI0.out)) | exact HB.out)); rintro e w5 ⟨rfl, hi, hb, hk⟩; have n0_ := Q9a.mk (KeepBut.trans (by repeat (first | (with_reducible first | exact HK.out | apply KeepBut.set_ | apply keep_drewN | apply keep_drew | apply keep_alloc) | exact HK.out)) hk (.inl rfl)); have n1_ := Q9a.mk (hb); have n2_ := Q9a.mk (hi); clear HK; clear HB; clear HI0; have HK := n0_; have HB := n1_; have HI0 := n2_; clear n0_ n1_ n2_; (try clear hb); (try clear hb2); (try clear hk); (try clear hi))))
  go_ret2
  exact ⟨by first | rfl | (simp [*, eN, eS] <;> rfl), by repeat (first | (with_reducible first | exact HI0.out | apply IsS90.alloc | apply IsS90.drewN | apply IsS90.drew | apply IsS90.set_0 | apply IsS90.set_1 | apply IsS90.set_3) | exact HI0.out), by repeat (first | (with_reducible first | exact HB.out | apply bA | apply bN | apply bD | refine bS ?_ (IsS90.ge HI0.out)) | exact HB.out), by repeat (first | (with_reducible first | exact HK.out | apply KeepBut.set_ | apply keep_drewN | apply keep_drew | apply keep_alloc) | exact HK.out)⟩
 rw [if_neg c4] at H;have c4b0 : (t128 == 0) = false := beq_eq_false_iff_ne.mpr c4;have c4b1 : (t128 != 0) = true := bne_iff_ne.mpr c4;by_cases c6 : 0 ≤ t128
 ·rw [if_pos c6] at H;have c6b0 : decide (0 ≤ t128) = true := decide_eq_true c6;clear c6;by_cases c7 : t128 < (s0_5.length : Int)
  ·rw [if_pos c7] at H;have c7b0 : decide (t128 < (s0_5.length : Int)) = true := decide_eq_true c7;clear c7;by_cases c8 : (wrap64 (t131 - 1)) = 0
   ·rw [if_pos c8] at H;exact absurd H (by simp)
   rw [if_neg c8] at H;have c8b0 : ((wrap64 (t131 - 1)) == 0) = false := beq_eq_false_iff_ne.mpr c8;have c8b1 : ((wrap64 (t131 - 1)) != 0) = true := bne_iff_ne.mpr c8;obtain ⟨ji9, hji9⟩ : ∃ j_ : Int, (Int.tmod (wrap64 ((wrap64 (t131 - 1)) - (rd s0_5 t128))) (wrap64 (t131 - 1))) = j_ := ⟨_, rfl⟩;replace H : (if 0 ≤ (ji9) then (if (ji9) < (s0_4.length : Int) then (some (rd s0_4 (ji9), 0, t129, t130, t131)) else (none)) else (none)) = some (r1, r2, r3, r4, r5) := by first | (rw [hji9] at H; exact H) | (simp only [hji9] at H ⊢; exact H)
   (try rw [hji9] at A3)
   by_cases c10 : 0 ≤ (ji9)
   ·rw [if_pos c10] at H;have c10b0 : decide (0 ≤ (ji9)) = true := decide_eq_true c10;clear c10;by_cases c11 : (ji9) < (s0_4.length : Int)
    ·rw [if_pos c11] at H;have c11b0 : decide ((ji9) < (s0_4.length : Int)) = true := decide_eq_true c11;clear c11;simp only [Option.some.injEq, Prod.mk.injEq] at H;obtain ⟨rfl, rfl, rfl, rfl, rfl⟩ := H;go_enter Try.func68, Try.ntmps68
     go_wp2_with (first | (go_at_call 86; (with_reducible refine (field_GF_in.calls g s0_0 s0_1 s0_2 s0_3 s0_4 s0_5 a1 t128 t129 t130 t131 w0 _ ?side1 ?side2 A3.out).mono ?_); (case side1 => repeat (first | (with_reducible first | exact HI0.out | apply IsS90.alloc | apply IsS90.drewN | apply IsS90.drew | apply IsS90.set_0 | apply IsS90.set_1 | apply IsS90.set_3) | exact HI0.out)); (case side2 => repeat (first | (with_reducible first | exact HB.out | apply bA | apply bN | apply bD | refine bS ?_ (IsS90.ge HI0.out)) | exact HB.out)); rintro e w12 ⟨rfl, hi, hb, hk⟩; have n0_ := Q9a.mk (KeepBut.trans (by repeat (first | (with_reducible first | exact HK.out | apply KeepBut.set_ | apply keep_drewN | apply keep_drew | apply keep_alloc) | exact HK.out)) hk (.inl rfl)); have n1_ := Q9a.mk (hb); have n2_ := Q9a.mk (hi); clear HK; clear HB; clear HI0; have HK := n0_; have HB := n1_; have HI0 := n2_; clear n0_ n1_ n2_; obtain ⟨ASz13_2, cSz13_2, ASz13_4, cSz13_4, ASz13_5, cSz13_5, HGz13, hgz13, HSz13_2, HSz13_4, HSz13_5⟩ := HI0.out; have hcz13_0 := cellS90_0 HGz13; have hcz13_1 := cellS90_1 HGz13; have hcz13_2 := cellS90_2 HGz13; have hcz13_3 := cellS90_3 HGz13; have hcz13_4 := cellS90_4 HGz13; have hcz13_5 := cellS90_5 HGz13; have hfz13_0 := kF HGz13 0; have hfz13_1 := kF HGz13 1; have hfz13_3 := kF HGz13 3; clear HGz13 hgz13; have p132 : 0 ≤ (t128 : Int) := of_decide_eq_true (by first | (with_reducible assumption) | assumption); have q132 : t128 < (s0_5.length : Int) := of_decide_eq_true (by first | (with_reducible assumption) | assumption); obtain ⟨ad132, e132, hx132_0⟩ := Kd.at_int HSz13_5 t128 p132 q132; cases e132; replace hx132_0 := pw_cell_below HB.out hx132_0; replace p132 := eq_true p132; replace q132 := eq_true q132; have p133 : 0 ≤ ((ji9) : Int) := of_decide_eq_true (by first | (with_reducible assumption) | assumption); have q133 : (ji9) < (s0_4.length : Int) := of_decide_eq_true (by first | (with_reducible assumption) | assumption); obtain ⟨ad133, e133, hx133_0⟩ := Kd.at_int HSz13_4 (ji9) p133 q133; cases e133; replace hx133_0 := pw_cell_below HB.out hx133_0; replace p133 := eq_true p133; replace q133 := eq_true q133))
     repeat (go_quiet (first | (go_at_call 86; (with_reducible refine (field_GF_in.calls g s0_0 s0_1 s0_2 s0_3 s0_4 s0_5 a1 t128 t129 t130 t131 w0 _ ?side1 ?side2 A3.out).mono ?_); (case side1 => repeat (first | (with_reducible first | exact HI0.out | apply IsS90.alloc | apply IsS90.drewN | apply IsS90.drew | apply IsS90.set_0 | apply IsS90.set_1 | apply IsS90.set_3) | exact HI0.out)); (case side2 => repeat (first | (with_reducible first | exact HB.out | apply bA | apply bN | apply bD | refine bS ?_ (IsS90.ge HI0.out)) | exact HB.out)); rintro e w12 ⟨rfl, hi, hb, hk⟩; have n0_ := Q9a.mk (KeepBut.trans (by repeat (first | (with_reducible first | exact HK.out | apply KeepBut.set_ | apply keep_drewN | apply keep_drew | apply keep_alloc) | exact HK.out)) hk (.inl rfl)); have n1_ := Q9a.mk (hb); have n2_ := Q9a.mk (hi); clear HK; clear HB; clear HI0; have HK := n0_; have HB := n1_; have HI0 := n2_; clear n0_ n1_ n2_; obtain ⟨ASz13_2, cSz13_2, ASz13_4, cSz13_4, ASz13_5, cSz13_5, HGz13, hgz13, HSz13_2, HSz13_4, HSz13_5⟩ := HI0.out; have hcz13_0 := cellS90_0 HGz13; have hcz13_1 := cellS90_1 HGz13; have hcz13_2 := cellS90_2 HGz13; have hcz13_3 := cellS90_3 HGz13; have hcz13_4 := cellS90_4 HGz13; have hcz13_5 := cellS90_5 HGz13; have hfz13_0 := kF HGz13 0; have hfz13_1 := kF HGz13 1; have hfz13_3 := kF HGz13 3; clear HGz13 hgz13; have p132 : 0 ≤ (t128 : Int) := of_decide_eq_true (by first | (with_reducible assumption) | assumption); have q132 : t128 < (s0_5.length : Int) := of_decide_eq_true (by first | (with_reducible assumption) | assumption); obtain ⟨ad132, e132, hx132_0⟩ := Kd.at_int HSz13_5 t128 p132 q132; cases e132; replace hx132_0 := pw_cell_below HB.out hx132_0; replace p132 := eq_true p132; replace q132 := eq_true q132; have p133 : 0 ≤ ((ji9) : Int) := of_decide_eq_true (by first | (with_reducible assumption) | assumption); have q133 : (ji9) < (s0_4.length : Int) := of_decide_eq_true (by first | (with_reducible assumption) | assumption); obtain ⟨ad133, e133, hx133_0⟩ := Kd.at_int HSz13_4 (ji9) p133 q133; cases e133; replace hx133_0 := pw_cell_below HB.out hx133_0; replace p133 := eq_true p133; replace q133 := eq_true q133)); try go_wp2_with (first | (go_at_call 86; (with_reducible refine (field_GF_in.calls g s0_0 s0_1 s0_2 s0_3 s0_4 s0_5 a1 t128 t129 t130 t131 w0 _ ?side1 ?side2 A3.out).mono ?_); (case side1 => repeat (first | (with_reducible first | exact HI0.out | apply IsS90.alloc | apply IsS90.drewN | apply IsS90.drew | apply IsS90.set_0 | apply IsS90.set_1 | apply IsS90.set_3) | exact HI0.out)); (case side2 => repeat (first | (with_reducible first | exact HB.out | apply bA | apply bN | apply bD | refine bS ?_ (IsS90.ge HI0.out)) | exact HB.out)); rintro e w12 ⟨rfl, hi, hb, hk⟩; have n0_ := Q9a.mk (KeepBut.trans (by repeat (first | (with_reducible first | exact HK.out | apply KeepBut.set_ | apply keep_drewN | apply keep_drew | apply keep_alloc) | exact HK.out)) hk (.inl rfl)); have n1_ := Q9a.mk (hb); have n2_ := Q9a.mk (hi); clear HK; clear HB; clear HI0; have HK := n0_; have HB := n1_; have HI0 := n2_; clear n0_ n1_ n2_; obtain ⟨ASz13_2, cSz13_2, ASz13_4, cSz13_4, ASz13_5, cSz13_5, HGz13, hgz13, HSz13_2, HSz13_4, HSz13_5⟩ := HI0.out; have hcz13_0 := cellS90_0 HGz13; have hcz13_1 := cellS90_1 HGz13; have hcz13_2 := cellS90_2 HGz13; have hcz13_3 := cellS90_3 HGz13; have hcz13_4 := cellS90_4 HGz13; have hcz13_5 := cellS90_5 HGz13; have hfz13_0 := kF HGz13 0; have hfz13_1 := kF HGz13 1; have hfz13_3 := kF HGz13 3; clear HGz13 hgz13; have p132 : 0 ≤ (t128 : Int) := of_decide_eq_true (by first | (with_reducible assumption) | assumption); have q132 : t128 < (s0_5.length : Int) := of_decide_eq_true (by first | (with_reducible assumption) | assumption); obtain ⟨ad132, e132, hx132_0⟩ := Kd.at_int HSz13_5 t128 p132 q132; cases e132; replace hx132_0 := pw_cell_below HB.out hx132_0; replace p132 := eq_true p132; replace q132 := eq_true q132; have p133 : 0 ≤ ((ji9) : Int) := of_decide_eq_true (by first | (with_reducible assumption) | assumption); have q133 : (ji9) < (s0_4.length : Int) := of_decide_eq_true (by first | (with_reducible assumption) | assumption); obtain ⟨ad133, e133, hx133_0⟩ := Kd.at_int HSz13_4 (ji9) p133 q133; cases e133; replace hx133_0 := pw_cell_below HB.out hx133_0; replace p133 := eq_true p133; replace q133 := eq_true q133)))
     go_ret2
     exact ⟨by first | rfl | (simp [eN, eS] <;> rfl) | (simp only [← hji9]; first | rfl | (simp [eN, eS] <;> rfl)) | (simp [*, eN, eS] <;> rfl), by repeat (first | (with_reducible first | exact HI0.out | apply IsS90.alloc | apply IsS90.drewN | apply IsS90.drew | apply IsS90.set_0 | apply IsS90.set_1 | apply IsS90.set_3) | exact HI0.out), by repeat (first | (with_reducible first | exact HB.out | apply bA | apply bN | apply bD | refine bS ?_ (IsS90.ge HI0.out)) | exact HB.out), by repeat (first | (with_reducible first | exact HK.out | apply KeepBut.set_ | apply keep_drewN | apply keep_drew | apply keep_alloc) | exact HK.out)⟩
    rw [if_neg c11] at H;exact absurd H (by simp)
   rw [if_neg c10] at H;exact absurd H (by simp)
  rw [if_neg c7] at H;exact absurd H (by simp)
 rw [if_neg c6] at H;exact absurd H (by simp)
def field_GF_Pow.j0 : Nat → Int → Int → Bool → Int → Int → List Int → Int → List Int → List Int → Option (Int × Int × Int × Int × Int)
 | 0, _, _, _, _, _, _, _, _, _ => none
 | k + 1, x1, x2, x15, x1000, x1001, x1002, x1003, x1004, x1005 => if x15 = true then (some (0, 7, x1000, x1001, x1003)) else (if x1 = 0 then (some (0, 0, x1000, x1001, x1003)) else (if (wrap64 (x1003 - 1)) = 0 then (none) else (if 0 ≤ x1 then (if x1 < (x1005.length : Int) then (if 0 ≤ (Int.tmod (wrap64 ((rd x1005 x1) * (Int.tmod (wrap64 ((Int.tmod x2 (wrap64 (x1003 - 1))) + (wrap64 (x1003 - 1)))) (wrap64 (x1003 - 1))))) (wrap64 (x1003 - 1))) then (if (Int.tmod (wrap64 ((rd x1005 x1) * (Int.tmod (wrap64 ((Int.tmod x2 (wrap64 (x1003 - 1))) + (wrap64 (x1003 - 1)))) (wrap64 (x1003 - 1))))) (wrap64 (x1003 - 1))) < (x1004.length : Int) then (some (rd x1004 (Int.tmod (wrap64 ((rd x1005 x1) * (Int.tmod (wrap64 ((Int.tmod x2 (wrap64 (x1003 - 1))) + (wrap64 (x1003 - 1)))) (wrap64 (x1003 - 1))))) (wrap64 (x1003 - 1))), 0, x1000, x1001, x1003)) else (none)) else (none)) else (none)) else (none))))
def field_GF_Pow.f (k : Nat) (s0_0 : Int) (s0_1 : Int) (s0_2 : List Int) (s0_3 : Int) (s0_4 : List Int) (s0_5 : List Int) (a1 : Int) (a2 : Int) : Option (Int × Int × Int × Int × Int) := (field_GF_in.f s0_0 s0_1 s0_2 s0_3 s0_4 s0_5 a1).bind fun bt134 => (if a2 = 0 then (some (1, 0, bt134.2.1, bt134.2.2.1, bt134.2.2.2)) else (if bt134.1 = 0 then (field_GF_Pow.j0 k bt134.1 a2 (decide (a2 < 0)) bt134.2.1 bt134.2.2.1 s0_2 bt134.2.2.2 s0_4 s0_5) else (field_GF_Pow.j0 k bt134.1 a2 false bt134.2.1 bt134.2.2.1 s0_2 bt134.2.2.2 s0_4 s0_5)))
theorem field_GF_Pow.calls (k : Nat) (g : Nat) (s0_0 : Int) (s0_1 : Int) (s0_2 : List Int) (s0_3 : Int) (s0_4 : List Int) (s0_5 : List Int) (a1 : Int) (a2 : Int) (r1 : Int) (r2 : Int) (r3 : Int) (r4 : Int) (r5 : Int) (w0 w : World) (hI : IsS90 w0 w g s0_0 s0_1 s0_2 s0_3 s0_4 s0_5) (hB : Below w0.heap.size w0 w) (h : field_GF_Pow.f k s0_0 s0_1 s0_2 s0_3 s0_4 s0_5 a1 a2 = some (r1, r2, r3, r4, r5)) :
  Calls Try.prog 89 #[.pointer (some ⟨g, 0, none⟩), .int .i64 a1, .int .i64 a2] w fun e w' => e = .returned (.tuple #[.int .i64 r1, .int .i64 r2]) ∧ IsS90 w0 w' g r3 r4 s0_2 r5 s0_4 s0_5 ∧ Below w0.heap.size w0 w' ∧ KeepBut w w' g none := by
 have HI0 := Q9a.mk hI;have HK := Q9a.mk (KeepBut.refl w g none);have HL := Q9a.mk hB.size;clear hI;have HW0 := Q9a.mk hB.size;have HB := Q9a.mk hB;clear hB;have H : ((field_GF_in.f s0_0 s0_1 s0_2 s0_3 s0_4 s0_5 a1).bind fun bt134 => (if a2 = 0 then (some (1, 0, bt134.2.1, bt134.2.2.1, bt134.2.2.2)) else (if bt134.1 = 0 then (field_GF_Pow.j0 k bt134.1 a2 (decide (a2 < 0)) bt134.2.1 bt134.2.2.1 s0_2 bt134.2.2.2 s0_4 s0_5) else (field_GF_Pow.j0 k bt134.1 a2 false bt134.2.1 bt134.2.2.1 s0_2 bt134.2.2.2 s0_4 s0_5)))) = some (r1, r2, r3, r4, r5) := h;clear h;replace H := Option.bind_eq_some_iff.mp H;obtain ⟨⟨t134, t135, t136, t137⟩, A40, H⟩ := H;replace H : (if a2 = 0 then (some (1, 0, t135, t136, t137)) else (if t134 = 0 then (field_GF_Pow.j0 k t134 a2 (decide (a2 < 0)) t135 t136 s0_2 t137 s0_4 s0_5) else (field_GF_Pow.j0 k t134 a2 false t135 t136 s0_2 t137 s0_4 s0_5))) = some (r1, r2, r3, r4, r5) := H;have A4 := Q9a.mk A40;clear A40;by_cases c5 : a2 = 0
 ·rw [if_pos c5] at H;have c5b0 : (a2 == 0) = true := beq_iff_eq.mpr c5;have c5b1 : (a2 != 0) = false := bne_eq_false_iff_eq.mpr c5;clear c5;simp only [Option.some.injEq, Prod.mk.injEq] at H;obtain ⟨rfl, rfl, rfl, rfl, rfl⟩ := H;go_enter Try.func89, Try.ntmps89
  go_wp2_with (first | (go_at_call 86; (with_reducible refine (field_GF_in.calls g s0_0 s0_1 s0_2 s0_3 s0_4 s0_5 a1 t134 t135 t136 t137 w0 _ ?side1 ?side2 A4.out).mono ?_); (case side1 => repeat (first | (with_reducible first | exact HI0.out | apply IsS90.alloc | apply IsS90.drewN | apply IsS90.drew | apply IsS90.set_0 | apply IsS90.set_1 | apply IsS90.set_3) | exact HI0.out)); (case side2 => repeat (first | (with_reducible first | exact HB.out | apply bA | apply bN | apply bD | refine bS ?_ (IsS90.ge HI0.out)) | exact HB.out)); rintro e w6 ⟨rfl, hi, hb, hk⟩; have n0_ := Q9a.mk (KeepBut.trans (by repeat (first | (with_reducible first | exact HK.out | apply KeepBut.set_ | apply keep_drewN | apply keep_drew | apply keep_alloc) | exact HK.out)) hk (.inl rfl)); have n1_ := Q9a.mk (hb); have n2_ := Q9a.mk (hi); clear HK; clear HB; clear HI0; have HK := n0_; have HB := n1_; have HI0 := n2_; clear n0_ n1_ n2_; (try clear hb); (try clear hb2); (try clear hk); (try clear hi)))
  repeat (go_quiet (first | (go_at_call 86; (with_reducible refine (field_GF_in.calls g s0_0 s0_1 s0_2 s0_3 s0_4 s0_5 a1 t134 t135 t136 t137 w0 _ ?side1 ?side2 A4.out).mono ?_); (case side1 => repeat (first | (with_reducible first | exact HI0.out | apply IsS90.alloc | apply IsS90.drewN | apply IsS90.drew | apply IsS90.set_0 | apply IsS90.set_1 | apply IsS90.set_3) | exact HI0.out)); (case side2 => repeat (first | (with_reducible first | exact HB.out | apply bA | apply bN | apply bD | refine bS ?_ (IsS90.ge HI0.out)) | exact HB.out)); rintro e w6 ⟨rfl, hi, hb, hk⟩; have n0_ := Q9a.mk (KeepBut.trans (by repeat (first | (with_reducible first | exact HK.out | apply KeepBut.set_ | apply keep_drewN | apply keep_drew | apply keep_alloc) | exact HK.out)) hk (.inl rfl)); have n1_ := Q9a.mk (hb); have n2_ := Q9a.mk (hi); clear HK; clear HB; clear HI0; have HK := n0_; have HB := n1_; have HI0 := n2_; clear n0_ n1_ n2_; (try clear hb); (try clear hb2); (try clear hk); (try clear hi))); try go_wp2_with (first | (go_at_call 86; (with_reducible refine (field_GF_in.calls g s0_0 s0_1 s0_2 s0_3 s0_4 s0_5 a1 t134 t135 t136 t137 w0 _ ?side1 ?side2 A4.out).mono ?_); (case side1 => repeat (first | (with_reducible first | exact HI0.out | apply IsS90.alloc | apply IsS90.drewN | apply IsS90.drew | apply IsS90.set_0 | apply IsS90.set_1 | apply IsS90.set_3) | exact HI0.out)); (case side2 => repeat (first | (with_reducible first | exact HB.out | apply bA | apply bN | apply bD | refine bS ?_ (IsS90.ge HI0.out)) | exact HB.out)); rintro e w6 ⟨rfl, hi, hb, hk⟩; have n0_ := Q9a.mk (KeepBut.trans (by repeat (first | (with_reducible first | exact HK.out | apply KeepBut.set_ | apply keep_drewN | apply keep_drew | apply keep_alloc) | exact HK.out)) hk (.inl rfl)); have n1_ := Q9a.mk (hb); have n2_ := Q9a.mk (hi); clear HK; clear HB; clear HI0; have HK := n0_; have HB := n1_; have HI0 := n2_; clear n0_ n1_ n2_; (try clear hb); (try clear hb2); (try clear hk); (try clear hi))))
  go_ret2
  exact ⟨by first | rfl | (simp [*, eN, eS] <;> rfl), by repeat (first | (with_reducible first | exact HI0.out | apply IsS90.alloc | apply IsS90.drewN | apply IsS90.drew | apply IsS90.set_0 | apply IsS90.set_1 | apply IsS90.set_3) | exact HI0.out), by repeat (first | (with_reducible first | exact HB.out | apply bA | apply bN | apply bD | refine bS ?_ (IsS90.ge HI0.out)) | exact HB.out), by repeat (first | (with_reducible first | exact HK.out | apply KeepBut.set_ | apply keep_drewN | apply keep_drew | apply keep_alloc) | exact HK.out)⟩
 rw [if_neg c5] at H;have c5b0 : (a2 == 0) = false := beq_eq_false_iff_ne.mpr c5;have c5b1 : (a2 != 0) = true := bne_iff_ne.mpr c5;have HC7 := Q9a.mk H;clear H;go_enter Try.func89, Try.ntmps89
 go_upto_region 4 with (first | (go_at_call 86; (with_reducible refine (field_GF_in.calls g s0_0 s0_1 s0_2 s0_3 s0_4 s0_5 a1 t134 t135 t136 t137 w0 _ ?side1 ?side2 A4.out).mono ?_); (case side1 => repeat (first | (with_reducible first | exact HI0.out | apply IsS90.alloc | apply IsS90.drewN | apply IsS90.drew | apply IsS90.set_0 | apply IsS90.set_1 | apply IsS90.set_3) | exact HI0.out)); (case side2 => repeat (first | (with_reducible first | exact HB.out | apply bA | apply bN | apply bD | refine bS ?_ (IsS90.ge HI0.out)) | exact HB.out)); rintro e w8 ⟨rfl, hi, hb, hk⟩; have n0_ := Q9a.mk (KeepBut.trans (by repeat (first | (with_reducible first | exact HK.out | apply KeepBut.set_ | apply keep_drewN | apply keep_drew | apply keep_alloc) | exact HK.out)) hk (.inl rfl)); have n1_ := Q9a.mk (hb); have n2_ := Q9a.mk (hi); clear HK; clear HB; clear HI0; have HK := n0_; have HB := n1_; have HI0 := n2_; clear n0_ n1_ n2_; (try clear hb); (try clear hb2); (try clear hk); (try clear hi)))
 repeat (go_quiet (first | (go_at_call 86; (with_reducible refine (field_GF_in.calls g s0_0 s0_1 s0_2 s0_3 s0_4 s0_5 a1 t134 t135 t136 t137 w0 _ ?side1 ?side2 A4.out).mono ?_); (case side1 => repeat (first | (with_reducible first | exact HI0.out | apply IsS90.alloc | apply IsS90.drewN | apply IsS90.drew | apply IsS90.set_0 | apply IsS90.set_1 | apply IsS90.set_3) | exact HI0.out)); (case side2 => repeat (first | (with_reducible first | exact HB.out | apply bA | apply bN | apply bD | refine bS ?_ (IsS90.ge HI0.out)) | exact HB.out)); rintro e w8 ⟨rfl, hi, hb, hk⟩; have n0_ := Q9a.mk (KeepBut.trans (by repeat (first | (with_reducible first | exact HK.out | apply KeepBut.set_ | apply keep_drewN | apply keep_drew | apply keep_alloc) | exact HK.out)) hk (.inl rfl)); have n1_ := Q9a.mk (hb); have n2_ := Q9a.mk (hi); clear HK; clear HB; clear HI0; have HK := n0_; have HB := n1_; have HI0 := n2_; clear n0_ n1_ n2_; (try clear hb); (try clear hb2); (try clear hk); (try clear hi))); go_upto_region 4 with (first | (go_at_call 86; (with_reducible refine (field_GF_in.calls g s0_0 s0_1 s0_2 s0_3 s0_4 s0_5 a1 t134 t135 t136 t137 w0 _ ?side1 ?side2 A4.out).mono ?_); (case side1 => repeat (first | (with_reducible first | exact HI0.out | apply IsS90.alloc | apply IsS90.drewN | apply IsS90.drew | apply IsS90.set_0 | apply IsS90.set_1 | apply IsS90.set_3) | exact HI0.out)); (case side2 => repeat (first | (with_reducible first | exact HB.out | apply bA | apply bN | apply bD | refine bS ?_ (IsS90.ge HI0.out)) | exact HB.out)); rintro e w8 ⟨rfl, hi, hb, hk⟩; have n0_ := Q9a.mk (KeepBut.trans (by repeat (first | (with_reducible first | exact HK.out | apply KeepBut.set_ | apply keep_drewN | apply keep_drew | apply keep_alloc) | exact HK.out)) hk (.inl rfl)); have n1_ := Q9a.mk (hb); have n2_ := Q9a.mk (hi); clear HK; clear HB; clear HI0; have HK := n0_; have HB := n1_; have HI0 := n2_; clear n0_ n1_ n2_; (try clear hb); (try clear hb2); (try clear hk); (try clear hi))))
 (try simp only [Act.put, sz1, sz2, sz3])
 go_cut [15] (fun v15 wc => ∃ (kq : Nat) (x15_6 : Bool), v15 = .bool x15_6 ∧ Q9a (field_GF_Pow.j0 kq t134 a2 x15_6 t135 t136 s0_2 t137 s0_4 s0_5 = some (r1, r2, r3, r4, r5)) ∧ Q9a (kq ≤ k) ∧ Q9a (IsS90 w0 wc g t135 t136 s0_2 t137 s0_4 s0_5) ∧ Q9a (KeepBut w wc g none) ∧ Q9a (Below w0.heap.size w0 wc))
 case first =>
  have H := HC7.out;clear HC7;by_cases c9 : t134 = 0
  ·rw [if_pos c9] at H;have c9b0 : (t134 == 0) = true := beq_iff_eq.mpr c9;have c9b1 : (t134 != 0) = false := bne_eq_false_iff_eq.mpr c9;clear c9;(first | rw [c9b0] | (simp only [i64_w, i32_w]; rw [c9b0]) | skip)
   have H' := Q9a.mk H;clear H;go_wp2
   repeat (go_quiet (fail); try go_wp2)
   go_meet
   case rel => exact ⟨_, (decide (a2 < 0)), (by first | rfl | (simp; done) | (simp [*]; done)), H', ⟨by first | omega | exact Nat.le_refl _⟩, ⟨by repeat (first | (with_reducible first | exact HI0.out | apply IsS90.alloc | apply IsS90.drewN | apply IsS90.drew | apply IsS90.set_0 | apply IsS90.set_1 | apply IsS90.set_3) | exact HI0.out)⟩, ⟨by repeat (first | (with_reducible first | exact HK.out | apply KeepBut.set_ | apply keep_drewN | apply keep_drew | apply keep_alloc) | exact HK.out)⟩, ⟨by repeat (first | (with_reducible first | exact HB.out | apply bA | apply bN | apply bD | refine bS ?_ (IsS90.ge HI0.out)) | exact HB.out)⟩⟩
  rw [if_neg c9] at H;have c9b0 : (t134 == 0) = false := beq_eq_false_iff_ne.mpr c9;have c9b1 : (t134 != 0) = true := bne_iff_ne.mpr c9;(first | rw [c9b0] | (simp only [i64_w, i32_w]; rw [c9b0]) | skip)
  have H' := Q9a.mk H;clear H;go_wp2
  repeat (go_quiet (fail); try go_wp2)
  go_meet
  case rel => exact ⟨_, (false), (by first | rfl | (simp; done) | (simp [*]; done)), H', ⟨by first | omega | exact Nat.le_refl _⟩, ⟨by repeat (first | (with_reducible first | exact HI0.out | apply IsS90.alloc | apply IsS90.drewN | apply IsS90.drew | apply IsS90.set_0 | apply IsS90.set_1 | apply IsS90.set_3) | exact HI0.out)⟩, ⟨by repeat (first | (with_reducible first | exact HK.out | apply KeepBut.set_ | apply keep_drewN | apply keep_drew | apply keep_alloc) | exact HK.out)⟩, ⟨by repeat (first | (with_reducible first | exact HB.out | apply bA | apply bN | apply bD | refine bS ?_ (IsS90.ge HI0.out)) | exact HB.out)⟩⟩
 case rest =>
  clear HC7;try clear p2
  try clear c5
  try clear c5b0
  try clear c5b1
  try clear c8
  try clear c9
  try clear c9b0
  try clear c9b1
  obtain ⟨kq, x15_6, rfl, HA, HJ6, HI0, HK, HB⟩ := hcut
  cases kq with
  | zero => exact absurd HA.out (by simp [field_GF_Pow.j0])
  | succ kj6 =>
   have H := HA.out;clear HA;simp only [field_GF_Pow.j0] at H;by_cases c10 : x15_6 = true
   ·subst c10;have H1 : (some (0, 7, t135, t136, t137)) = some (r1, r2, r3, r4, r5) := by rw [if_pos rfl] at H; exact H
    clear H;have H := H1;clear H1;simp only [Option.some.injEq, Prod.mk.injEq] at H;obtain ⟨rfl, rfl, rfl, rfl, rfl⟩ := H;go_wp2
    repeat (go_quiet (fail); try go_wp2)
    go_ret2
    exact ⟨by first | rfl | (simp [*, eN, eS] <;> rfl), by repeat (first | (with_reducible first | exact HI0.out | apply IsS90.alloc | apply IsS90.drewN | apply IsS90.drew | apply IsS90.set_0 | apply IsS90.set_1 | apply IsS90.set_3) | exact HI0.out), by repeat (first | (with_reducible first | exact HB.out | apply bA | apply bN | apply bD | refine bS ?_ (IsS90.ge HI0.out)) | exact HB.out), by repeat (first | (with_reducible first | exact HK.out | apply KeepBut.set_ | apply keep_drewN | apply keep_drew | apply keep_alloc) | exact HK.out)⟩
   replace c10 := Bool.eq_false_iff.mpr c10;subst c10;have H1 : (if t134 = 0 then (some (0, 0, t135, t136, t137)) else (if (wrap64 (t137 - 1)) = 0 then (none) else (if 0 ≤ t134 then (if t134 < (s0_5.length : Int) then (if 0 ≤ (Int.tmod (wrap64 ((rd s0_5 t134) * (Int.tmod (wrap64 ((Int.tmod a2 (wrap64 (t137 - 1))) + (wrap64 (t137 - 1)))) (wrap64 (t137 - 1))))) (wrap64 (t137 - 1))) then (if (Int.tmod (wrap64 ((rd s0_5 t134) * (Int.tmod (wrap64 ((Int.tmod a2 (wrap64 (t137 - 1))) + (wrap64 (t137 - 1)))) (wrap64 (t137 - 1))))) (wrap64 (t137 - 1))) < (s0_4.length : Int) then (some (rd s0_4 (Int.tmod (wrap64 ((rd s0_5 t134) * (Int.tmod (wrap64 ((Int.tmod a2 (wrap64 (t137 - 1))) + (wrap64 (t137 - 1)))) (wrap64 (t137 - 1))))) (wrap64 (t137 - 1))), 0, t135, t136, t137)) else (none)) else (none)) else (none)) else (none)))) = some (r1, r2, r3, r4, r5) := by rw [if_neg (show ¬ (false = true) by decide)] at H; exact H
   clear H;have H := H1;clear H1;by_cases c11 : t134 = 0
   ·rw [if_pos c11] at H;have c11b0 : (t134 == 0) = true := beq_iff_eq.mpr c11;have c11b1 : (t134 != 0) = false := bne_eq_false_iff_eq.mpr c11;clear c11;simp only [Option.some.injEq, Prod.mk.injEq] at H;obtain ⟨rfl, rfl, rfl, rfl, rfl⟩ := H;go_wp2
    repeat (go_quiet (fail); try go_wp2)
    go_ret2
    exact ⟨by first | rfl | (simp [*, eN, eS] <;> rfl), by repeat (first | (with_reducible first | exact HI0.out | apply IsS90.alloc | apply IsS90.drewN | apply IsS90.drew | apply IsS90.set_0 | apply IsS90.set_1 | apply IsS90.set_3) | exact HI0.out), by repeat (first | (with_reducible first | exact HB.out | apply bA | apply bN | apply bD | refine bS ?_ (IsS90.ge HI0.out)) | exact HB.out), by repeat (first | (with_reducible first | exact HK.out | apply KeepBut.set_ | apply keep_drewN | apply keep_drew | apply keep_alloc) | exact HK.out)⟩
   rw [if_neg c11] at H;have c11b0 : (t134 == 0) = false := beq_eq_false_iff_ne.mpr c11;have c11b1 : (t134 != 0) = true := bne_iff_ne.mpr c11;by_cases c12 : (wrap64 (t137 - 1)) = 0
   ·rw [if_pos c12] at H;exact absurd H (by simp)
   rw [if_neg c12] at H;have c12b0 : ((wrap64 (t137 - 1)) == 0) = false := beq_eq_false_iff_ne.mpr c12;have c12b1 : ((wrap64 (t137 - 1)) != 0) = true := bne_iff_ne.mpr c12;by_cases c13 : 0 ≤ t134
   ·rw [if_pos c13] at H;have c13b0 : decide (0 ≤ t134) = true := decide_eq_true c13;clear c13;by_cases c14 : t134 < (s0_5.length : Int)
    ·rw [if_pos c14] at H;have c14b0 : decide (t134 < (s0_5.length : Int)) = true := decide_eq_true c14;clear c14;obtain ⟨ji15, hji15⟩ : ∃ j_ : Int, (Int.tmod (wrap64 ((rd s0_5 t134) * (Int.tmod (wrap64 ((Int.tmod a2 (wrap64 (t137 - 1))) + (wrap64 (t137 - 1)))) (wrap64 (t137 - 1))))) (wrap64 (t137 - 1))) = j_ := ⟨_, rfl⟩;replace H : (if 0 ≤ (ji15) then (if (ji15) < (s0_4.length : Int) then (some (rd s0_4 (ji15), 0, t135, t136, t137)) else (none)) else (none)) = some (r1, r2, r3, r4, r5) := by first | (rw [hji15] at H; exact H) | (simp only [hji15] at H ⊢; exact H)
     by_cases c16 : 0 ≤ (ji15)
     ·rw [if_pos c16] at H;have c16b0 : decide (0 ≤ (ji15)) = true := decide_eq_true c16;clear c16;by_cases c17 : (ji15) < (s0_4.length : Int)
      ·rw [if_pos c17] at H;have c17b0 : decide ((ji15) < (s0_4.length : Int)) = true := decide_eq_true c17;clear c17;simp only [Option.some.injEq, Prod.mk.injEq] at H;obtain ⟨rfl, rfl, rfl, rfl, rfl⟩ := H;obtain ⟨ASz18_2, cSz18_2, ASz18_4, cSz18_4, ASz18_5, cSz18_5, HGz18, hgz18, HSz18_2, HSz18_4, HSz18_5⟩ := HI0.out;have hcz18_0 := cellS90_0 HGz18;have hcz18_1 := cellS90_1 HGz18;have hcz18_2 := cellS90_2 HGz18;have hcz18_3 := cellS90_3 HGz18;have hcz18_4 := cellS90_4 HGz18;have hcz18_5 := cellS90_5 HGz18;have hfz18_0 := kF HGz18 0;have hfz18_1 := kF HGz18 1;have hfz18_3 := kF HGz18 3;clear HGz18 hgz18;have p138 : 0 ≤ (t134 : Int) := of_decide_eq_true (by first | (with_reducible assumption) | assumption);have q138 : t134 < (s0_5.length : Int) := of_decide_eq_true (by first | (with_reducible assumption) | assumption);obtain ⟨ad138, e138, hx138_0⟩ := Kd.at_int HSz18_5 t134 p138 q138
       cases e138
       replace hx138_0 := pw_cell_below HB.out hx138_0;replace p138 := eq_true p138;replace q138 := eq_true q138;have p139 : 0 ≤ ((ji15) : Int) := of_decide_eq_true (by first | (with_reducible assumption) | assumption);have q139 : (ji15) < (s0_4.length : Int) := of_decide_eq_true (by first | (with_reducible assumption) | assumption);obtain ⟨ad139, e139, hx139_0⟩ := Kd.at_int HSz18_4 (ji15) p139 q139
       cases e139
       replace hx139_0 := pw_cell_below HB.out hx139_0;replace p139 := eq_true p139;replace q139 := eq_true q139;go_wp2
       repeat (go_quiet (fail); try go_wp2)
       go_ret2
       exact ⟨by first | rfl | (simp [eN, eS] <;> rfl) | (simp only [← hji15]; first | rfl | (simp [eN, eS] <;> rfl)) | (simp [*, eN, eS] <;> rfl), by repeat (first | (with_reducible first | exact HI0.out | apply IsS90.alloc | apply IsS90.drewN | apply IsS90.drew | apply IsS90.set_0 | apply IsS90.set_1 | apply IsS90.set_3) | exact HI0.out), by repeat (first | (with_reducible first | exact HB.out | apply bA | apply bN | apply bD | refine bS ?_ (IsS90.ge HI0.out)) | exact HB.out), by repeat (first | (with_reducible first | exact HK.out | apply KeepBut.set_ | apply keep_drewN | apply keep_drew | apply keep_alloc) | exact HK.out)⟩
      rw [if_neg c17] at H;exact absurd H (by simp)
     rw [if_neg c16] at H;exact absurd H (by simp)
    rw [if_neg c14] at H;exact absurd H (by simp)
   rw [if_neg c13] at H;exact absurd H (by simp)
end
end Go.Proofs.Ytlbddjojhcgpiaa.GS
end
-- GmL
section
namespace Go.Proofs.Ytlbddjojhcgpiaa.Hand
open Go.RowKit Go.Proofs.YtlbddjojhcgpiaaW.PrintWords
theorem w64 {n : Int} (h0 : -9223372036854775808 ≤ n) (h1 : n < 9223372036854775808) : wrap64 n = n := by
 unfold wrap64; omega
theorem w64n (n : Nat) (h : n < 9223372036854775808) : wrap64 (n : Int) = n := w64 (by omega) (by omega)
theorem GFok.isS {w : World} {b : Nat} {G : GFv} (h : GFok w b G) : GS.IsS90 w w b (G.F.p : Int) (G.F.m : Int) G.mod (G.q : Int) G.exp G.log := by
 obtain ⟨A2, c2, A4, c4, A5, c5, h4, h5, h6, h7, h8, h9, h10⟩ := h;exact ⟨A2, c2, A4, c4, A5, c5, h4, trivial, h5, h7, h9⟩
theorem gs_in (G : GFv) (x : Int) : GS.field_GF_in.f (G.F.p : Int) (G.F.m : Int) G.mod (G.q : Int) G.exp G.log x = some (G.inn x, (G.F.p : Int), (G.F.m : Int), (G.q : Int)) := by
 unfold GS.field_GF_in.f GS.field_GF_Is.f Cw.GFv.inn Cw.GFv.is
 by_cases h : 0 ≤ x
 ·rw [if_pos h];by_cases h2 : x < (G.q : Int)
  ·simp [h, h2]
  simp [h2]
 rw [if_neg h];simp [h]
theorem rd_exp (G : GFv) {i : Nat} (h : i < G.q - 1) : rd G.exp (i : Int) = G.num (Cw.pw G.gen i) := by
 unfold rd; rw [Int.toNat_natCast]; exact G.exp_at h
theorem rd_log (G : GFv) {x : Int} (h : G.is x) : rd G.log x = (G.lg (G.el x) : Int) := by
 unfold rd; exact G.log_el h
theorem inn_nat (G : GFv) (x : Int) : ∃ a : Nat, G.inn x = (a : Int) ∧ a < G.q ∧ (G.el x).code = a := by
 have h := G.inn_is x;have h1 := h.1;have h2 := h.2;refine ⟨(G.inn x).toNat, by omega, by omega, ?_⟩;have := G.num_el x;unfold Cw.GFv.num at this
 omega
theorem log_len (G : GFv) : (G.log.length : Int) = (G.q : Int) := by rw [G.log_length]
theorem exp_len (G : GFv) : (G.exp.length : Int) = ((G.q - 1 : Nat) : Int) := by rw [G.exp_length]
end Go.Proofs.Ytlbddjojhcgpiaa.Hand
end
-- GmA
section
namespace Go.Proofs.Ytlbddjojhcgpiaa.Hand
open Go.RowKit Go.Proofs.YtlbddjojhcgpiaaW.PrintWords
theorem gs_add_loop (G : GFv) (n : Nat) : ∀ (x y s t : Nat), x < G.F.p ^ n → y < G.F.p ^ n → t * G.F.p ^ n ≤ 65536 → s < t →
  Ev (fun k => GS.field_GF_Add.l0 k (x : Int) (y : Int) (s : Int) (t : Int) (G.F.p : Int) (G.F.m : Int) G.mod (G.q : Int) G.exp G.log) ((s + t * Cw.addc G.F.p n x y : Nat), (G.F.p : Int), (G.F.m : Int), (G.q : Int)) := by
 have hp := G.p_ge;have hq := G.q_le;have hpq := G.p_le;induction n with
 | zero =>
  intro x y s t hx hy hs ht;rw [Nat.pow_zero] at hx hy;obtain rfl : x = 0 := by omega
  obtain rfl : y = 0 := by omega
  refine Ev.step (f := fun _ => _) (fun k => by simp only [GS.field_GF_Add.l0]; rw [if_neg (by omega), if_neg (by omega)]) ?_;simp only [Cw.addc, Nat.mul_zero, Nat.add_zero];exact Ev.now _
 | succ n ih =>
  intro x y s t hx hy hs ht;by_cases h0 : x = 0 ∧ y = 0
  ·obtain ⟨rfl, rfl⟩ := h0;refine Ev.step (f := fun _ => _) (fun k => by simp only [GS.field_GF_Add.l0]; rw [if_neg (by omega), if_neg (by omega)]) ?_;rw [Cw.addc_zero, Nat.mul_zero, Nat.add_zero];exact Ev.now _
  have hpow : 1 ≤ G.F.p ^ n := Nat.one_le_pow _ _ (by omega);have e1 : t * G.F.p ^ (n + 1) = t * G.F.p * G.F.p ^ n := by rw [Nat.pow_succ]; ac_rfl
  have e2 : t * G.F.p * 1 ≤ t * G.F.p * G.F.p ^ n := Nat.mul_le_mul_left _ hpow;have e3 : t * 2 ≤ t * G.F.p := Nat.mul_le_mul_left _ hp;have hm := Nat.mod_lt (x % G.F.p + y % G.F.p) (show 0 < G.F.p by omega);have hmx := Nat.mod_lt x (show 0 < G.F.p by omega);have hmy := Nat.mod_lt y (show 0 < G.F.p by omega);have e4 : (x % G.F.p + y % G.F.p) % G.F.p * t ≤ (G.F.p - 1) * t := Nat.mul_le_mul_right _ (by omega)
  have e5 : (G.F.p - 1) * t + t = t * G.F.p := by
   rw [← Nat.succ_mul, show (G.F.p - 1).succ = G.F.p from by omega, Nat.mul_comm]
  have hxp : x / G.F.p ≤ x := Nat.div_le_self _ _;have hyp : y / G.F.p ≤ y := Nat.div_le_self _ _
  have hxb : x < 65536 := by
   have : G.F.p ^ (n + 1) ≤ t * G.F.p ^ (n + 1) := Nat.le_mul_of_pos_left _ (by omega);omega
  have hyb : y < 65536 := by
   have : G.F.p ^ (n + 1) ≤ t * G.F.p ^ (n + 1) := Nat.le_mul_of_pos_left _ (by omega);omega
  have key : ∀ k, GS.field_GF_Add.l0 (k + 1) (x : Int) (y : Int) (s : Int) (t : Int) (G.F.p : Int) (G.F.m : Int) G.mod (G.q : Int) G.exp G.log
    = GS.field_GF_Add.l0 k ((x / G.F.p : Nat) : Int) ((y / G.F.p : Nat) : Int) ((s + (x % G.F.p + y % G.F.p) % G.F.p * t : Nat) : Int) ((t * G.F.p : Nat) : Int) (G.F.p : Int) (G.F.m : Int) G.mod (G.q : Int) G.exp G.log := by
   intro k
   have hnext : wrap64 (Int.tdiv (x : Int) (G.F.p : Int)) = ((x / G.F.p : Nat) : Int) ∧ wrap64 (Int.tdiv (y : Int) (G.F.p : Int)) = ((y / G.F.p : Nat) : Int)
     ∧ wrap64 ((s : Int) + wrap64 (Int.tmod (wrap64 (Int.tmod (x : Int) (G.F.p : Int) + Int.tmod (y : Int) (G.F.p : Int))) (G.F.p : Int) * (t : Int))) = ((s + (x % G.F.p + y % G.F.p) % G.F.p * t : Nat) : Int)
     ∧ wrap64 ((t : Int) * (G.F.p : Int)) = ((t * G.F.p : Nat) : Int) := by
    refine ⟨?_, ?_, ?_, ?_⟩
    ·rw [Cw.tdiv_nat, w64n _ (by omega)]
    ·rw [Cw.tdiv_nat, w64n _ (by omega)]
    ·rw [Cw.tmod_nat, Cw.tmod_nat, ← Int.natCast_add, w64n _ (by omega), Cw.tmod_nat, ← Int.natCast_mul, w64n _ (by omega), ← Int.natCast_add, w64n _ (by omega)]
    rw [← Int.natCast_mul, w64n _ (by omega)]
   obtain ⟨n1, n2, n3, n4⟩ := hnext;simp only [GS.field_GF_Add.l0];rw [n1, n2, n3, n4];by_cases hx0 : (x : Int) > 0
   ·rw [if_pos hx0, if_neg (by omega)]
   rw [if_neg hx0, if_pos (by omega), if_neg (by omega)]
  refine Ev.step key ?_;have := ih (x / G.F.p) (y / G.F.p) (s + (x % G.F.p + y % G.F.p) % G.F.p * t) (t * G.F.p) (Cw.div_lt_pow (by omega) hx) (Cw.div_lt_pow (by omega) hy) (by rw [e1] at hs; exact hs) (by omega)
  rw [show s + t * Cw.addc G.F.p (n + 1) x y = s + (x % G.F.p + y % G.F.p) % G.F.p * t + t * G.F.p * Cw.addc G.F.p n (x / G.F.p) (y / G.F.p) from by
   rw [Cw.addc, Nat.mul_add, Nat.add_assoc]; congr 2
   ·rw [Nat.mul_comm]
   rw [Nat.mul_assoc]]
  exact this
theorem xor_bits (a b : Nat) (ha : a < 2 ^ 62) (hb : b < 2 ^ 62) : Go.bits .xor .i64 (a : Int) (b : Int) = ((a ^^^ b : Nat) : Int) := by
 have hx := Nat.xor_lt_two_pow ha hb;have ha' : a % 2 ^ 64 = a := Nat.mod_eq_of_lt (by omega);have hb' : b % 2 ^ 64 = b := Nat.mod_eq_of_lt (by omega)
 have e : ∀ x y : BitVec 64, x = BitVec.ofNat 64 a → y = BitVec.ofNat 64 b → (x ^^^ y).toNat = a ^^^ b := by
  intro x y hx hy;rw [hx, hy, BitVec.toNat_xor, BitVec.toNat_ofNat, BitVec.toNat_ofNat, ha', hb']
 have e2 := e (BitVec.ofInt 64 (a : Int)) (BitVec.ofInt 64 (b : Int)) (BitVec.ofInt_natCast 64 a) (BitVec.ofInt_natCast 64 b);show IntKind.i64.wrap (((BitVec.ofInt 64 (a : Int) ^^^ BitVec.ofInt 64 (b : Int)).toNat : Nat) : Int) = _
 rw [e2, IntKind.wrap_i64];omega
theorem gs_add (G : GFv) (x y : Int) : Ev (fun k => GS.field_GF_Add.f k (G.F.p : Int) (G.F.m : Int) G.mod (G.q : Int) G.exp G.log x y) (G.add x y, (G.F.p : Int), (G.F.m : Int), (G.q : Int)) := by
 obtain ⟨a, ha, haq, hac⟩ := inn_nat G x;obtain ⟨b, hb, hbq, hbc⟩ := inn_nat G y;have hq := G.q_le
 have hadd : G.add x y = ((Cw.addc G.F.p G.F.m a b : Nat) : Int) := by
  unfold Cw.GFv.add Cw.GFv.num; rw [Cw.El.code_add, hac, hbc]
 rw [hadd];by_cases h2 : (G.F.p : Int) = 2
 ·refine Ev.congr (f := fun _ => some (((Cw.addc G.F.p G.F.m a b : Nat) : Int), (G.F.p : Int), (G.F.m : Int), (G.q : Int))) (fun k => ?_) (Ev.now _);unfold GS.field_GF_Add.f
  rw [gs_in]; simp only [Option.bind_some]; rw [gs_in]; simp only [Option.bind_some];rw [if_pos h2, ha, hb, xor_bits a b (by omega) (by omega)];have hp2 : G.F.p = 2 := by omega
  have hqq : G.q = 2 ^ G.F.m := by unfold Cw.GFv.q; rw [hp2]
  rw [hp2, Cw.addc_two _ _ _ (by omega) (by omega)]
 have hl := gs_add_loop G G.F.m a b 0 1 haq hbq (by show 1 * G.q ≤ _; omega) (by omega);rw [Nat.zero_add, Nat.one_mul] at hl;refine Ev.congr (fun k => ?_) hl;unfold GS.field_GF_Add.f
 rw [gs_in]; simp only [Option.bind_some]; rw [gs_in]; simp only [Option.bind_some];rw [if_neg h2, ha, hb];rfl
def field_GF_Add.f (a0 : GFv) (a1 : Int) (a2 : Int) : Option (Int) := some (a0.add a1 a2)
theorem field_GF_Add.calls (b_a0 : Nat) (a0 : GFv) (a1 : Int) (a2 : Int) (r : Int) (w : World) (hg0 : GFok w b_a0 a0) (h : field_GF_Add.f a0 a1 a2 = some r) :
  Calls Try.prog 64 #[.pointer (some ⟨b_a0, 0, none⟩), .int .i64 a1, .int .i64 a2] w fun e w' => e = .returned (.int .i64 r) ∧ Below w.heap.size w w' := by
 obtain rfl := Option.some.inj h;obtain ⟨k, hk⟩ := (gs_add a0 a1 a2).rounds;exact (GS.field_GF_Add.calls k b_a0 _ _ _ _ _ _ a1 a2 _ _ _ _ w w hg0.isS (Below.refl _ _) hk).mono fun e w' h => ⟨h.1, h.2.2.1⟩
theorem gs_mul (G : GFv) (x y : Int) : GS.field_GF_Mul.f (G.F.p : Int) (G.F.m : Int) G.mod (G.q : Int) G.exp G.log x y = some (G.mul x y, (G.F.p : Int), (G.F.m : Int), (G.q : Int)) := by
 have hq := G.q_le;have hq2 := G.q_ge;unfold GS.field_GF_Mul.f
 rw [gs_in]; simp only [Option.bind_some]; rw [gs_in]; simp only [Option.bind_some];by_cases hx : G.inn x = 0
 ·have hm : G.mul x y = 0 := by
   unfold Cw.GFv.mul; rw [G.el_eq_zero.2 hx, Cw.zero_mul, G.num_zero]
  rw [if_pos hx, hm]
 by_cases hy : G.inn y = 0
 ·have hm : G.mul x y = 0 := by
   unfold Cw.GFv.mul; rw [G.el_eq_zero.2 hy, Cw.mul_zero, G.num_zero]
  rw [if_neg hx, if_pos hy, hm]
 have hxe : G.el x ≠ 0 := fun h => hx (G.el_eq_zero.1 h)
 have hye : G.el y ≠ 0 := fun h => hy (G.el_eq_zero.1 h)
 have ix := G.inn_is x;have iy := G.inn_is y;have lx := G.lg_spec hxe;have ly := G.lg_spec hye;have hlog := log_len G;have hexp := exp_len G
 rw [rd_log G ix, rd_log G iy, G.el_inn, G.el_inn, w64 (n := (G.q : Int) - 1) (by omega) (by omega), ← Int.natCast_add, w64n _ (by omega),
  show (G.q : Int) - 1 = ((G.q - 1 : Nat) : Int) from by omega, Cw.tmod_nat]
 have hlt := Nat.mod_lt (G.lg (G.el x) + G.lg (G.el y)) (show 0 < G.q - 1 by omega);rw [if_neg hx, if_neg hy, if_pos ix.1, if_pos (by rw [hlog]; exact ix.2), if_pos iy.1, if_pos (by rw [hlog]; exact iy.2), if_neg (by omega), if_pos (by omega), if_pos (by omega), rd_exp G hlt];unfold Cw.GFv.mul
 rw [G.pw_mod, Cw.pw_add, lx.2, ly.2]
def field_GF_Mul.f (a0 : GFv) (a1 : Int) (a2 : Int) : Option (Int) := some (a0.mul a1 a2)
theorem field_GF_Mul.calls (b_a0 : Nat) (a0 : GFv) (a1 : Int) (a2 : Int) (r : Int) (w : World) (hg0 : GFok w b_a0 a0) (h : field_GF_Mul.f a0 a1 a2 = some r) :
  Calls Try.prog 56 #[.pointer (some ⟨b_a0, 0, none⟩), .int .i64 a1, .int .i64 a2] w fun e w' => e = .returned (.int .i64 r) ∧ Below w.heap.size w w' := by
 obtain rfl := Option.some.inj h;exact (GS.field_GF_Mul.calls b_a0 _ _ _ _ _ _ a1 a2 _ _ _ _ w w hg0.isS (Below.refl _ _) (gs_mul a0 a1 a2)).mono fun e w' h => ⟨h.1, h.2.2.1⟩
theorem tmod_norm (n : Int) (k : Nat) (hk : 0 < k) : Int.tmod (Int.tmod n k + k) k = n % (k : Int) := by
 have h1 := Int.tmod_lt_of_pos n (show (0 : Int) < (k : Int) by omega);have h2 := Int.lt_tmod_of_pos n (show (0 : Int) < (k : Int) by omega);rw [Int.tmod_eq_emod_of_nonneg (by omega)];have h3 := Int.tmod_add_mul_tdiv n (k : Int);conv => rhs; rw [← h3]
 rw [Int.add_mul_emod_self_left, Int.add_emod_right]
theorem gs_pow (G : GFv) (x n : Int) : ∀ k, GS.field_GF_Pow.f (k + 1) (G.F.p : Int) (G.F.m : Int) G.mod (G.q : Int) G.exp G.log x n = some ((G.pow x n).1, (G.pow x n).2, (G.F.p : Int), (G.F.m : Int), (G.q : Int)) := by
 intro k;have hq := G.q_le;have hq2 := G.q_ge;unfold GS.field_GF_Pow.f
 rw [gs_in]; simp only [Option.bind_some];unfold Cw.GFv.pow
 by_cases hn : n = 0
 ·rw [if_pos hn, if_pos hn]
 rw [if_neg hn, if_neg hn];by_cases hx : G.inn x = 0
 ·rw [if_pos hx, if_pos (G.el_eq_zero.2 hx)];simp only [GS.field_GF_Pow.j0];by_cases hneg : n < 0
  ·rw [if_pos (by simpa using hneg), if_pos hneg]
  rw [if_neg (by simpa using hneg), if_pos hx, if_neg hneg]
 have hxe : G.el x ≠ 0 := fun h => hx (G.el_eq_zero.1 h)
 rw [if_neg hx, if_neg hxe];simp only [GS.field_GF_Pow.j0];have ix := G.inn_is x;have lx := G.lg_spec hxe;have hlog := log_len G;have hexp := exp_len G;have hk : 0 < G.q - 1 := by omega
 have b1 := Int.tmod_lt_of_pos n (show (0 : Int) < ((G.q - 1 : Nat) : Int) by omega);have b2 := Int.lt_tmod_of_pos n (show (0 : Int) < ((G.q - 1 : Nat) : Int) by omega);have b3 := Int.emod_nonneg n (show ((G.q - 1 : Nat) : Int) ≠ 0 by omega);have b4 := Int.emod_lt_of_pos n (show (0 : Int) < ((G.q - 1 : Nat) : Int) by omega);rw [w64 (n := (G.q : Int) - 1) (by omega) (by omega), show (G.q : Int) - 1 = ((G.q - 1 : Nat) : Int) from by omega, w64 (n := Int.tmod n _ + _) (by omega) (by omega), tmod_norm n _ hk, rd_log G ix, G.el_inn];obtain ⟨j, hj⟩ : ∃ j : Nat, n % ((G.q - 1 : Nat) : Int) = (j : Int) := ⟨(n % ((G.q - 1 : Nat) : Int)).toNat, by omega⟩;rw [hj] at b4 ⊢;have hb : G.lg (G.el x) * j ≤ 256 * 256 := Nat.mul_le_mul (by omega) (by omega);have hlt := Nat.mod_lt (G.lg (G.el x) * j) hk;rw [← Int.natCast_mul, w64n _ (by omega), Cw.tmod_nat, if_neg (by simp), if_neg hx, if_neg (by omega), if_pos ix.1, if_pos (by rw [hlog]; exact ix.2), if_pos (by omega), if_pos (by omega), rd_exp G hlt, Int.toNat_natCast, G.pw_mod, Cw.pw_mul, lx.2]
def field_GF_Pow.f (a0 : GFv) (a1 : Int) (a2 : Int) : Option (Int × Int) := some (a0.pow a1 a2)
theorem field_GF_Pow.calls (b_a0 : Nat) (a0 : GFv) (a1 : Int) (a2 : Int) (r1 : Int) (r2 : Int) (w : World) (hg0 : GFok w b_a0 a0) (h : field_GF_Pow.f a0 a1 a2 = some (r1, r2)) :
  Calls Try.prog 89 #[.pointer (some ⟨b_a0, 0, none⟩), .int .i64 a1, .int .i64 a2] w fun e w' => e = .returned (.tuple #[.int .i64 r1, .int .i64 r2]) ∧ Below w.heap.size w w' := by
 have h' := Option.some.inj h;obtain ⟨rfl, rfl⟩ : (a0.pow a1 a2).1 = r1 ∧ (a0.pow a1 a2).2 = r2 := by rw [h']; exact ⟨rfl, rfl⟩
 exact (GS.field_GF_Pow.calls 1 b_a0 _ _ _ _ _ _ a1 a2 _ _ _ _ _ w w hg0.isS (Below.refl _ _) (gs_pow a0 a1 a2 0)).mono fun e w' h => ⟨h.1, h.2.2.1⟩
end Go.Proofs.Ytlbddjojhcgpiaa.Hand
end
