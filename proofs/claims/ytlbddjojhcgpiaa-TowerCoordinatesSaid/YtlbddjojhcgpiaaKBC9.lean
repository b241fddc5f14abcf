/- What towerCoordinates_holds needs: texts Fm, Pb1, Pb2, Gn, D3, D5, D4, D6, Pb3, put together. -/
import Derived.Test.YtlbddjojhcgpiaaKBC8
import Derived.Laws.BitsLemmas
import Derived.Laws.CopyOwn
import Derived.Laws.StructEq
import Derived.OrdersHeld
set_option linter.unusedVariables false
set_option linter.unusedSimpArgs false
set_option linter.unusedSectionVars false
set_option maxHeartbeats 8000000
set_option maxRecDepth 100000
-- Fm
section
namespace Go.Proofs.Ytlbddjojhcgpiaa.Hand
noncomputable section
open Go.RowKit Go.Proofs.Ytlbddjojhcgpiaa.P Go.Proofs.Ytlbddjojhcgpiaa.Hand Go.Proofs.YtlbddjojhcgpiaaW.PrintWords Go.Proofs.YtlbddjojhcgpiaaW.PrintLast Go.Proofs.YtlbddjojhcgpiaaW.PrintMore
set_option linter.unusedVariables false
set_option linter.unusedSimpArgs false
mutual
def field_multiply.l0 : Nat → List Int → List Int → List Int → Int → Int → Int → List Int → Option (Int)
 | 0, _, _, _, _, _, _, _ => none
 | k + 1, x7, x8, x9, x10, x107000, x107001, x107002 => if x10 ≥ 0 then (if 0 ≤ (wrap64 (x107001 - 1)) then (if (wrap64 (x107001 - 1)) < (x9.length : Int) then (if x107001 = (x9.length : Int) then (if 0 < (x9.length : Int) then (field_multiply.l1 k x7 x8 ((shr1 x9).set (0 : Int).toNat 0) x10 (rd x9 (wrap64 (x107001 - 1))) (x9.length : Int) 0 x107000 x107001 x107002) else (none)) else (none)) else (none)) else (none)) else ((field_valueOf.f k x9 x107000).bind fun t116 => (some t116))
def field_multiply.l1 : Nat → List Int → List Int → List Int → Int → Int → Int → Int → Int → Int → List Int → Option (Int)
 | 0, _, _, _, _, _, _, _, _, _, _ => none
 | k + 1, x7, x8, x9, x10, x11, x53, x54, x107000, x107001, x107002 => if x54 < x53 then (if x107001 > 1 then (if 0 ≤ x54 then (if x54 < (x107002.length : Int) then (if x54 < (x9.length : Int) then (if 0 ≤ x10 then (if x10 < (x8.length : Int) then (if x54 < (x7.length : Int) then (if x107000 = 0 then (none) else (field_multiply.l1 k x7 x8 (x9.set (x54 : Int).toNat (Int.tmod (wrap64 ((wrap64 ((rd x9 x54) + (wrap64 ((wrap64 (x107000 - x11)) * (rd x107002 x54))))) + (wrap64 ((rd x8 x10) * (rd x7 x54))))) x107000)) x10 x11 x53 (wrap64 (x54 + 1)) x107000 x107001 x107002)) else (none)) else (none)) else (none)) else (none)) else (none)) else (none)) else (if 0 ≤ x54 then (if x54 < (x9.length : Int) then (if 0 ≤ x10 then (if x10 < (x8.length : Int) then (if x54 < (x7.length : Int) then (if x107000 = 0 then (none) else (field_multiply.l1 k x7 x8 (x9.set (x54 : Int).toNat (Int.tmod (wrap64 ((wrap64 ((rd x9 x54) + (wrap64 (0)))) + (wrap64 ((rd x8 x10) * (rd x7 x54))))) x107000)) x10 x11 x53 (wrap64 (x54 + 1)) x107000 x107001 x107002)) else (none)) else (none)) else (none)) else (none)) else (none))) else (field_multiply.l0 k x7 x8 x9 (wrap64 (x10 - 1)) x107000 x107001 x107002)
end
def field_multiply.f (k : Nat) (a0_0 : Int) (a0_1 : Int) (l0_2 : List Int) (a1 : Int) (a2 : Int) : Option (Int) := (field_digitsOf.f k a1 a0_0 a0_1).bind fun t107 => ((field_digitsOf.f k a2 a0_0 a0_1).bind fun t110 => (if 0 ≤ a0_1 then (if (a0_1 : Int).toNat ≤ 35184372088832 then (field_multiply.l0 k t107 t110 (List.replicate (a0_1 : Int).toNat 0) (wrap64 (a0_1 - 1)) a0_0 a0_1 l0_2) else (none)) else (none)))
def field_multiply.T1 : Bool × List (List Nat × List Nat) := (true, [([], []), ([], []), ([1], [1]), ([], []), ([3], [3]), ([0, 2, 4], [0, 2, 4]), ([], []), ([], []), ([7], [7]), ([], []), ([9], [9]), ([6, 8, 10, 5], [6, 8, 10]), ([5, 11, 0, 1, 2, 3, 4, 5], [5]), ([11, 12, 0, 1, 2, 3, 4, 5, 6, 7, 8, 9, 10, 11, 12], [11])])
def field_multiply.B1 : List Nat := [0, 0, 2, 0, 8, 31, 0, 0, 128, 0, 512, 2047, 4095, 8191]
theorem field_multiply.tab1 : rtab .any (opsOf Try.f92 1) = field_multiply.T1 := by kernel_rfl
theorem field_multiply.bits1 : waitsOk field_multiply.T1.2 field_multiply.B1 = true := by kernel_rfl
def field_multiply.T15 : Bool × List (List Nat × List Nat) := (true, [([], []), ([], []), ([], []), ([], []), ([2, 3], [2, 3]), ([4], [4]), ([], []), ([6], [6]), ([], []), ([7, 8], [7, 8]), ([], []), ([9, 10], [9, 10]), ([5, 11], [5, 11]), ([], []), ([], []), ([13, 14], [13, 14]), ([15], [15]), ([], []), ([], []), ([17, 18], [17, 18]), ([19], [19]), ([16, 20], [16, 20]), ([12, 21], [12, 21]), ([], []), ([23], [23]), ([22, 24], [22, 24]), ([0, 1, 0, 1, 2, 3, 4, 5, 6, 7, 8, 9, 10, 11, 12, 13, 14, 15, 16, 17, 18, 19, 20, 21, 22, 23, 24, 25], [0, 1]), ([26, 25, 0, 1, 2, 3, 4, 5, 6, 7, 8, 9, 10, 11, 12, 13, 14, 15, 16, 17, 18, 19, 20, 21, 22, 23, 24, 25], [25, 26])])
def field_multiply.B15 : List Nat := [0, 0, 0, 0, 12, 28, 0, 64, 0, 448, 0, 1984, 4092, 0, 0, 24576, 57344, 0, 0, 393216, 917504, 2088960, 4194300, 0, 8388608, 33554428, 67108863, 134217727]
theorem field_multiply.tab15 : rtab .any (opsOf Try.f92 15) = field_multiply.T15 := by kernel_rfl
theorem field_multiply.bits15 : waitsOk field_multiply.T15.2 field_multiply.B15 = true := by kernel_rfl
theorem field_multiply.calls (k : Nat) (a0_0 : Int) (a0_1 : Int) (A0_2 : Option Addr) (c0_2 : Nat) (l0_2 : List Int) (a1 : Int) (a2 : Int) (r : Int) (w : World) (hr0_2 : Kd.C (Kd.int .i64) w A0_2 l0_2.length l0_2) (hc0_2 : l0_2.length ≤ c0_2) (h : field_multiply.f k a0_0 a0_1 l0_2 a1 a2 = some r) :
  Calls Try.prog 92 #[.agg #[.int .i64 a0_0, .int .i64 a0_1, .slice A0_2 l0_2.length c0_2], .int .i64 a1, .int .i64 a2] w fun e w' => e = .returned (.int .i64 r) ∧ Below w.heap.size w w' := by
 have hu24 := Try.underlying24;have HR0_2 := Q9a.mk hr0_2;have HC0_2 := Q9a.mk hc0_2;clear hr0_2 hc0_2;have HB := Q9a.mk (Below.refl w.heap.size w);have H : ((field_digitsOf.f k a1 a0_0 a0_1).bind fun t107 => ((field_digitsOf.f k a2 a0_0 a0_1).bind fun t110 => (if 0 ≤ a0_1 then (if (a0_1 : Int).toNat ≤ 35184372088832 then (field_multiply.l0 k t107 t110 (List.replicate (a0_1 : Int).toNat 0) (wrap64 (a0_1 - 1)) a0_0 a0_1 l0_2) else (none)) else (none)))) = some r := h;clear h;replace H := Option.bind_eq_some_iff.mp H;obtain ⟨t107, A40, H⟩ := H;replace H : ((field_digitsOf.f k a2 a0_0 a0_1).bind fun t110 => (if 0 ≤ a0_1 then (if (a0_1 : Int).toNat ≤ 35184372088832 then (field_multiply.l0 k t107 t110 (List.replicate (a0_1 : Int).toNat 0) (wrap64 (a0_1 - 1)) a0_0 a0_1 l0_2) else (none)) else (none))) = some r := H;have A4 := Q9a.mk A40;clear A40;replace H := Option.bind_eq_some_iff.mp H;obtain ⟨t110, A50, H⟩ := H;replace H : (if 0 ≤ a0_1 then (if (a0_1 : Int).toNat ≤ 35184372088832 then (field_multiply.l0 k t107 t110 (List.replicate (a0_1 : Int).toNat 0) (wrap64 (a0_1 - 1)) a0_0 a0_1 l0_2) else (none)) else (none)) = some r := H;have A5 := Q9a.mk A50;clear A50;by_cases c6 : 0 ≤ a0_1
 ·rw [if_pos c6] at H;have c6b0 := eq_true c6;have c6b1 : decide (0 ≤ a0_1) = true := decide_eq_true c6;clear c6;by_cases c7 : (a0_1 : Int).toNat ≤ 35184372088832
  ·rw [if_pos c7] at H;have c7b0 := eq_true c7;have c7b1 : decide ((a0_1 : Int).toNat ≤ 35184372088832) = true := decide_eq_true c7;clear c7;obtain ⟨y113, hy113⟩ : ∃ y_ : List Int, y_ = (List.replicate (a0_1 : Int).toNat 0) := ⟨_, rfl⟩;replace H : (field_multiply.l0 k t107 t110 y113 (wrap64 (a0_1 - 1)) a0_0 a0_1 l0_2) = some r := by first | (rw [hy113]; with_reducible exact H) | (have H2_ := (Option.bind_some _ _).symm.trans H; rw [hy113]; with_reducible exact H2_) | (have H2_ := (Option.bind_some _ _).symm.trans H; with_reducible exact H2_) | with_reducible exact H | (rw [hy113]; exact H) | exact H
   have Ny113 := Q9a.mk hy113;clear hy113;have H' := Q9a.mk H;clear H;go_enter Try.func92, Try.ntmps92
   try go_wp2_with (first | ((with_reducible refine gD (N := 3) rfl ?_); refine bE ?hg (N := 3) ?hd (cs := #[.int .i64 a0_0, .int .i64 a0_1, .slice A0_2 l0_2.length c0_2]) (t := 24) ?hr ?_; (case hd => rfl); (case hg => rfl); (case hr => first | (go_simp; done) | (go_simp; rfl)); intro gb106 hg w8 hbox hb; have n0_ := Q9a.mk (bP (bI HB.out) hb); have n1_ := Q9a.mk (hbox); have n2_ := Q9a.mk ((by rw [hg]; exact (bZ (bI HB.out)) : w.heap.size ≤ gb106)); have n3_ := n2_; clear HB; have HB := n0_; have BK106 := n1_; have GW106 := n2_; have GE106 := n3_; clear n0_ n1_ n2_ n3_; clear hb hbox hg))
   have n0_ := Q9a.mk (kD BK106.out);have n1_ := Q9a.mk (bD HB.out);clear BK106;clear HB;have BK106 := n0_;have HB := n1_;clear n0_ n1_;refine start_ (n := 14) (S := fun w' => w'.cell? ⟨gb106, 0, none⟩ = some (.int .i64 a0_0) ∧ w'.cell? ⟨gb106, 1, none⟩ = some (.int .i64 a0_1) ∧ w'.cell? ⟨gb106, 2, none⟩ = some (.slice A0_2 l0_2.length c0_2)) (ds := []) #[fB,fB,fB,fB,fB,fB,fB,fB,fB,fB,fB,fB,fB,fB] (by kernel_rfl) rfl rfl ⟨(kC BK106.out 0).trans rfl, (kC BK106.out 1).trans rfl, (kC BK106.out 2).trans rfl⟩ (fun hHeld => ?_); refine with_tabW field_multiply.tab1 field_multiply.bits1 (fun HT_ HW_ => ?_);generalize w8.drew = w9 at BK106 HB hHeld ⊢;refine pT 0 14 rfl HT_.out ?_;refine pT 1 15 rfl HT_.out ?_;refine pT 3 17 rfl HT_.out ?_;refine pT 6 20 rfl HT_.out ?_;refine pT 7 21 rfl HT_.out ?_;refine pT 9 23 rfl HT_.out ?_;refine tT 2 16 rfl HT_.out HW_.out hHeld ?_;refine tT 4 18 rfl HT_.out HW_.out hHeld ?_;refine tT 8 22 rfl HT_.out HW_.out hHeld ?_;refine tT 10 24 rfl HT_.out HW_.out hHeld ?_;refine oT 5 19 rfl HT_.out (fun K hK => ?_);refine goes_ Try.func87 (by kernel_rfl) rfl #[.int .i64 a1, .int .i64 a0_0, .int .i64 a0_1] (by rfl) rfl rfl (by (try simp only [sm1, sm2, sm3]); first | done | rfl | (simp only [sm4, sm5]; rfl)) ?_;with_reducible refine (field_digitsOf.calls k a1 a0_0 a0_1 t107 _ A4.out).mono ?_
   rintro e w10 ⟨v108, rfl, ho0, hb⟩;refine ⟨_, rfl, ?_⟩;have n0_ := Q9a.mk (Kd.rL ho0 (bZ (by repeat (first | (with_reducible first | exact HB.out | apply bA | apply bN | apply bD | refine bS ?_ GE106.out) | exact HB.out))));have n1_ := Q9a.mk (kB (g := gb106) (o := .cells #[.int .i64 a0_0, .int .i64 a0_1, .slice A0_2 l0_2.length c0_2] 24 (0, 0)) (kI BK106.out) hb);have n2_ := Q9a.mk (bP (by repeat (first | (with_reducible first | exact HB.out | apply bA | apply bN | apply bD | refine bS ?_ GE106.out) | exact HB.out)) hb);clear BK106;clear HB;have HO109 := n0_;have BK106 := n1_;have HB := n2_;clear n0_ n1_ n2_;(try clear ho0)
   refine hK.out _ _ ⟨(kC BK106.out 0).trans rfl, (kC BK106.out 1).trans rfl, (kC BK106.out 2).trans rfl⟩ (fun hHeld => ?_);clear hK K;refine norm_ (a' := ?_) ?_ ?_;rotate_left
   ·show Act.put _ (some 19) _ = _
    simp only [Act.put, sz1, sz2, sz3, i64_w, i32_w];rfl
   refine oT 11 25 rfl HT_.out (fun K hK => ?_);refine goes_ Try.func87 (by kernel_rfl) rfl #[.int .i64 a2, .int .i64 a0_0, .int .i64 a0_1] (by rfl) rfl rfl (by (try simp only [sm1, sm2, sm3]); first | done | rfl | (simp only [sm4, sm5]; rfl)) ?_;with_reducible refine (field_digitsOf.calls k a2 a0_0 a0_1 t110 _ A5.out).mono ?_
   rintro e w11 ⟨v111, rfl, ho0, hb⟩;refine ⟨_, rfl, ?_⟩;have n0_ := Q9a.mk (Kd.R_elder' (rI HO109.out) (Kd.R_base ho0) hb);have n1_ := Q9a.mk (Kd.rL (Kd.R_new' ho0 (Kd.R_lt (rI HO109.out))) (bZ (by repeat (first | (with_reducible first | exact HB.out | apply bA | apply bN | apply bD | refine bS ?_ GE106.out) | exact HB.out))));have n2_ := Q9a.mk (kB (g := gb106) (o := .cells #[.int .i64 a0_0, .int .i64 a0_1, .slice A0_2 l0_2.length c0_2] 24 (0, 0)) (kI BK106.out) hb);have n3_ := Q9a.mk (bP (by repeat (first | (with_reducible first | exact HB.out | apply bA | apply bN | apply bD | refine bS ?_ GE106.out) | exact HB.out)) hb);clear HO109;clear BK106;clear HB;have HO109 := n0_;have HO112 := n1_;have BK106 := n2_;have HB := n3_;clear n0_ n1_ n2_ n3_;(try clear ho0)
   refine hK.out _ _ ⟨(kC BK106.out 0).trans rfl, (kC BK106.out 1).trans rfl, (kC BK106.out 2).trans rfl⟩ (fun hHeld => ?_);clear hK K;refine norm_ (a' := ?_) ?_ ?_;rotate_left
   ·show Act.put _ (some 25) _ = _
    simp only [Act.put, sz1, sz2, sz3, i64_w, i32_w];rfl
   refine pT 12 7 rfl HT_.out ?_;refine pT 13 8 rfl HT_.out ?_;refine done_ (done_of HT_.out (by kernel_rfl)) ?_;have hcz12_0 : w11.cell? ⟨gb106, 0, none⟩ = some (.int .i64 a0_0) := (kC BK106.out 0).trans rfl;have hcz12_1 : w11.cell? ⟨gb106, 1, none⟩ = some (.int .i64 a0_1) := (kC BK106.out 1).trans rfl;have hcz12_2 : w11.cell? ⟨gb106, 2, none⟩ = some (.slice A0_2 l0_2.length c0_2) := (kC BK106.out 2).trans rfl;have hfz12_0 := kF BK106.out 0;have hfz12_1 := kF BK106.out 1;have hfz12_2 := kF BK106.out 2;try go_wp2_with (first | ((with_reducible refine gD (N := 28) rfl ?_); refine Kd.R_make (Kd.int .i64) _ 3 rfl (N := 28) rfl 22 _ _ rfl a0_1 rfl rfl Try.underlying22 (.int .i64 0) 8 info3 rfl (by decide) (by omega) 0 (ok := fun _ => True) (okp := fun _ => True) rfl (fun _ hk => hk) trivial (of_decide_eq_true (by first | (with_reducible assumption) | assumption)) (Nat.le_trans (Nat.mul_le_mul_right _ (of_decide_eq_true (by first | (with_reducible assumption) | assumption) : a0_1.toNat ≤ 35184372088832)) (by omega)) (Below.refl _ _) (Nat.le_refl _) ?_; intro v114 w13 ho14 hb hg_ hnew_; clear hg_ hnew_; (first | rw [← Ny113.out] at ho14 | (simp only [Int.reduceToNat] at ho14; rw [← Ny113.out] at ho14)); have n0_ := Q9a.mk (Kd.R_elder' (rI HO109.out) (Kd.R_base ho14) hb); have n1_ := Q9a.mk (Kd.R_elder' (rI HO112.out) (Kd.R_base ho14) hb); have n2_ := Q9a.mk (Kd.rL (Kd.R_new' (Kd.R_new' ho14 (Kd.R_lt (rI HO109.out))) (Kd.R_lt (rI HO112.out))) (bZ (by repeat (first | (with_reducible first | exact HB.out | apply bA | apply bN | apply bD | refine bS ?_ GE106.out) | exact HB.out)))); have n3_ := Q9a.mk (kB (g := gb106) (o := .cells #[.int .i64 a0_0, .int .i64 a0_1, .slice A0_2 l0_2.length c0_2] 24 (0, 0)) (kI BK106.out) hb); have n4_ := Q9a.mk (bP (by repeat (first | (with_reducible first | exact HB.out | apply bA | apply bN | apply bD | refine bS ?_ GE106.out) | exact HB.out)) hb); clear HO109; clear HO112; clear BK106; clear HB; have HO109 := n0_; have HO112 := n1_; have HO115 := n2_; have BK106 := n3_; have HB := n4_; clear n0_ n1_ n2_ n3_ n4_; clear hb ho14; have hcz15_0 : w13.cell? ⟨gb106, 0, none⟩ = some (.int .i64 a0_0) := (kC BK106.out 0).trans rfl; have hcz15_1 : w13.cell? ⟨gb106, 1, none⟩ = some (.int .i64 a0_1) := (kC BK106.out 1).trans rfl; have hcz15_2 : w13.cell? ⟨gb106, 2, none⟩ = some (.slice A0_2 l0_2.length c0_2) := (kC BK106.out 2).trans rfl; have hfz15_0 := kF BK106.out 0; have hfz15_1 := kF BK106.out 1; have hfz15_2 := kF BK106.out 2))
   go_loopg [10] k (fun kq v10 w' => ∃ (x9_1 : List Int) (x10_1 : Int), v10 = .int .i64 x10_1 ∧ Q9a (field_multiply.l0 kq t107 t110 x9_1 x10_1 a0_0 a0_1 l0_2 = some r) ∧ Q9a (kq ≤ k) ∧ Q9a (Kd.R (Kd.int .i64) 3 w' w.heap.size (fun k_ => some k_ ≠ (v111 : Value).ownBlock ∧ some k_ ≠ (v114 : Value).ownBlock) v108 t107) ∧ Q9a (Kd.R (Kd.int .i64) 3 w' w.heap.size (fun k_ => some k_ ≠ (v108 : Value).ownBlock ∧ some k_ ≠ (v114 : Value).ownBlock) v111 t110) ∧ Q9a (Kd.R (Kd.int .i64) 3 w' w.heap.size (fun k_ => some k_ ≠ (v108 : Value).ownBlock ∧ some k_ ≠ (v111 : Value).ownBlock) v114 x9_1) ∧ Q9a (w'.heap[gb106]? = some (.cells #[.int .i64 a0_0, .int .i64 a0_1, (.slice A0_2 l0_2.length c0_2)] 24 (0, 0))) ∧ Q9a (Below w.heap.size w w'))
   case atStart => exact ⟨(y113), (wrap64 (a0_1 - 1)), (by first | rfl | (simp; done) | (simp [*]; done)), H', ⟨Nat.le_refl _⟩, ⟨by (with_reducible repeat (first | apply Kd.rA | apply Kd.rN | apply Kd.rD)); exact Kd.R_mono HO109.out (fun _ hk => ⟨hk.1.2, hk.2⟩)⟩, ⟨by (with_reducible repeat (first | apply Kd.rA | apply Kd.rN | apply Kd.rD)); exact Kd.R_mono HO112.out (fun _ hk => ⟨hk.1.2, hk.2⟩)⟩, ⟨by (with_reducible repeat (first | apply Kd.rA | apply Kd.rN | apply Kd.rD)); exact Kd.R_mono HO115.out (fun _ hk => ⟨hk.1.2, hk.2⟩)⟩, ⟨kI BK106.out⟩, ⟨by repeat (first | (with_reducible first | exact HB.out | apply bA | apply bN | apply bD | refine bS ?_ GE106.out) | exact HB.out)⟩⟩
   case round =>
    clear H';try clear p2
    try clear c6
    try clear c6b0
    try clear c6b1
    try clear p6
    try clear c7
    try clear c7b0
    try clear c7b1
    try clear hcz12_0
    try clear hcz12_1
    try clear hcz12_2
    try clear hcz15_0
    try clear hcz15_1
    try clear hcz15_2
    try clear hfz12_0
    try clear hfz12_1
    try clear hfz12_2
    try clear hfz15_0
    try clear hfz15_1
    try clear hfz15_2
    obtain ⟨x9_1, x10_1, rfl, HA, HK1, HO_7, HO_8, HO_9, BK106, HB⟩ := hrel
    cases gk with
    | zero => exact absurd HA.out (by simp [field_multiply.l0])
    | succ k1 =>
     have H := HA.out;clear HA;simp only [field_multiply.l0] at H;by_cases c16 : x10_1 ≥ 0
     ·rw [if_pos c16] at H;have c16b0 : decide (0 ≤ x10_1) = true := decide_eq_true c16;clear c16;obtain ⟨ji17, hji17⟩ : ∃ j_ : Int, (wrap64 (a0_1 - 1)) = j_ := ⟨_, rfl⟩;replace H : (if 0 ≤ (ji17) then (if (ji17) < (x9_1.length : Int) then (if a0_1 = (x9_1.length : Int) then (if 0 < (x9_1.length : Int) then (field_multiply.l1 k1 t107 t110 ((shr1 x9_1).set (0 : Int).toNat 0) x10_1 (rd x9_1 (ji17)) (x9_1.length : Int) 0 a0_0 a0_1 l0_2) else (none)) else (none)) else (none)) else (none)) = some r := by first | (rw [hji17] at H; exact H) | (simp only [hji17] at H ⊢; exact H)
      have hji17w : (IntKind.i64.wrap (a0_1 - 1)) = ji17 := (i64_w _).trans hji17;by_cases c18 : 0 ≤ (ji17)
      ·rw [if_pos c18] at H;have c18b0 : decide (0 ≤ (ji17)) = true := decide_eq_true c18;clear c18;by_cases c19 : (ji17) < (x9_1.length : Int)
       ·rw [if_pos c19] at H;have c19b0 : decide ((ji17) < (x9_1.length : Int)) = true := decide_eq_true c19;clear c19
        have cM : a0_1 = (x9_1.length : Int) := by
         by_cases cM : a0_1 = (x9_1.length : Int)
         ·exact cM
         rw [if_neg cM] at H;exact absurd H (by simp)
        rw [if_pos cM] at H;have HcM := Q9a.mk cM;clear cM;by_cases c20 : 0 < (x9_1.length : Int)
        ·rw [if_pos c20] at H;have c20b0 : decide (0 < (x9_1.length : Int)) = true := decide_eq_true c20;have c20b1 : decide (0 < x9_1.length) = true := decide_eq_true (by omega);clear c20;obtain ⟨y118, hy118⟩ : ∃ y_ : List Int, y_ = ((shr1 x9_1).set (0 : Int).toNat 0) := ⟨_, rfl⟩;replace H : (field_multiply.l1 k1 t107 t110 y118 x10_1 (rd x9_1 (ji17)) (x9_1.length : Int) 0 a0_0 a0_1 l0_2) = some r := by first | (rw [hy118]; with_reducible exact H) | (have H2_ := (Option.bind_some _ _).symm.trans H; rw [hy118]; with_reducible exact H2_) | (have H2_ := (Option.bind_some _ _).symm.trans H; with_reducible exact H2_) | with_reducible exact H | (rw [hy118]; exact H) | exact H
         have Ny118 := Q9a.mk hy118;clear hy118;have H' := Q9a.mk H;clear H;have hcz22_0 : wr.cell? ⟨gb106, 0, none⟩ = some (.int .i64 a0_0) := (kC BK106.out 0).trans rfl;have hcz22_1 : wr.cell? ⟨gb106, 1, none⟩ = some (.int .i64 a0_1) := (kC BK106.out 1).trans rfl;have hcz22_2 : wr.cell? ⟨gb106, 2, none⟩ = some (.slice A0_2 l0_2.length c0_2) := (kC BK106.out 2).trans rfl;have hfz22_0 := kF BK106.out 0;have hfz22_1 := kF BK106.out 1;have hfz22_2 := kF BK106.out 2;obtain ⟨Ao23, co23, eo23⟩ := Kd.R_slice HO_9.out;subst eo23;have p117 : 0 ≤ ((ji17) : Int) := of_decide_eq_true (by first | (with_reducible assumption) | assumption);have q117 : (ji17) < (x9_1.length : Int) := of_decide_eq_true (by first | (with_reducible assumption) | assumption);obtain ⟨ad117, e117, hx117_0⟩ := Kd.at_int (Kd.R_reads' HO_9.out).2.2 (ji17) p117 q117
         cases e117
         replace p117 := eq_true p117;replace q117 := eq_true q117;have p21 : 0 ≤ (0 : Int) := (by omega);have q21 : (0 : Int) < ((x9_1.length : Int) : Int) := of_decide_eq_true (by first | (with_reducible assumption) | assumption);have qi21 : (0 < x9_1.length) = True := eq_true (by omega);obtain ⟨go21, co21, eo21, gb21, gl21, cl21, HG21⟩ := Kd.R_form HO_9.out (by omega);(first | cases eo21 | (injection eo21 with ea_ en_ ec_; (first | subst ea_ | (injection ea_ with ea_; subst ea_)); subst ec_; clear en_))
         have GB21 := Q9a.mk gb21;have GG21 := Q9a.mk HG21;clear gb21 gl21 HG21;(first | simp only [add_plain] at hx117_0 | skip)
         go_upto_region 7 with (fail)
         have HR0 := Q9a.mk (Kd.R_reads' HO_9.out);have hpl : 0 < x9_1.length := by omega
         have hnM : ji17 = (x9_1.length : Int) - 1 := by
          have e1 := hji17;rw [HcM.out] at e1;unfold wrap64 at e1
          have := HR0.out.2.2.2.1;omega
         have HnM := Q9a.mk hnM;have s1 : (1 : Int) ≤ (x9_1.length : Int) := by omega
         have s2 : ji17 ≤ (co23 : Int) := by have := HR0.out.2.1; omega
         have s3 : (0 : Int) ≤ ji17 := by omega
         clear hnM hpl;go_region_law (refine step_copy_shr rfl (.tmp 43) (.tmp 48) rfl go21 x9_1.length co23 x9_1 w.heap.size _ (by (with_reducible repeat (first | apply Kd.rN | apply Kd.rD)); exact HO_9.out) _ _ _ _ _ rfl rfl (fun h_ => by rw [if_neg (by have := HR0.out.2.1; omega)]) rfl (by have := HnM.out; omega) ?_; intro w23 hR23 hg23)
         generalize (if co23 = 1 then some (⟨go21, 0, none⟩ : Addr) else some ⟨go21, 1, none⟩) = dp43;clear s1 s2 s3 HR0 HnM;have n0_ := Q9a.mk (Kd.R_after (v := (.slice (some ⟨go21, 0, none⟩) x9_1.length co23)) (v1 := (.slice (some ⟨go21, 0, none⟩) x9_1.length co23)) (ok := (fun k_ => some k_ ≠ (v111 : Value).ownBlock)) (rI HO_7.out) hg23 (.inl rfl));have n1_ := Q9a.mk (Kd.R_after (v := (.slice (some ⟨go21, 0, none⟩) x9_1.length co23)) (v1 := (.slice (some ⟨go21, 0, none⟩) x9_1.length co23)) (ok := (fun k_ => some k_ ≠ (v108 : Value).ownBlock)) (rI HO_8.out) hg23 (.inl rfl));have n2_ := Q9a.mk hR23;have n3_ := Q9a.mk (blk_grown (g := gb106) (o := .cells #[.int .i64 a0_0, .int .i64 a0_1, .slice A0_2 l0_2.length c0_2] 24 (0, 0)) (kI BK106.out) hg23 (Kd.R_ne HO_9.out BK106.out (by decide)));have n4_ := Q9a.mk ((bD HB.out : Below w.heap.size w wr.drew).grown hg23 (bD HB.out : Below w.heap.size w wr.drew).size (fun k_ e_ => by cases e_; exact GB21.out));clear HO_7 HO_8 HO_9 BK106 HB hR23 hg23 hx117_0 hcz22_0 hcz22_1 hcz22_2 hfz22_0 hfz22_1 hfz22_2 GG21;have HO_7 := n0_;have HO_8 := n1_;have HO_9 := n2_;have BK106 := n3_;have HB := n4_;clear n0_ n1_ n2_ n3_ n4_;obtain ⟨wz, rfl⟩ : ∃ z_ : World, z_ = wr := ⟨_, rfl⟩;obtain ⟨wr, rfl⟩ : ∃ z_ : World, z_ = w23 := ⟨_, rfl⟩;have hsl := shr1_length x9_1;obtain ⟨hx21_0, hf21_0⟩ := Kd.R_celln 0 HO_9.out (0 : Int) p21 q21;(try rw [show ((0 : Int)).toNat = 0 from rfl] at hx21_0)
         (try simp only [Nat.reduceMul, Nat.zero_mul, Nat.zero_add, Nat.reduceAdd] at hx21_0)
         (try rw [show ((0 : Int)).toNat = 0 from rfl] at hf21_0)
         (try simp only [Nat.reduceMul, Nat.zero_mul, Nat.zero_add, Nat.reduceAdd] at hf21_0)
         replace p21 := eq_true p21;replace q21 := eq_true q21;have HP24 := Kd.R_putg HO_9.out (0 : Int) 0;go_wp2_with (first | ((with_reducible refine gate_store (t := 3) (p := 51) rfl ?_); refine store_event (t := 3) (p := 51) (v := ?vo_w25) (w1 := (wr.setCell ⟨go21, (0 : Int).toNat, none⟩ (.int .i64 0))) ?hg ?ho ?hn ?hr ?_; (case ho => rfl); (case hg => rfl); (case hn => rfl); (case hr => first | (go_simp; done) | (go_simp; rfl)); intro w25 hw; have hg : wr.grownBy w25 (some go21) := (by rw [hw]; exact HP24.2); have hp_ : Kd.R (Kd.int .i64) 3 w25 w.heap.size (fun k_ => some k_ ≠ (v108 : Value).ownBlock ∧ some k_ ≠ (v111 : Value).ownBlock) (.slice (some ⟨go21, 0, none⟩) x9_1.length co23) y118 := (by rw [hw, Ny118.out]; exact HP24.1); clear HP24; have n0_ := Q9a.mk (Kd.R_after (v := (.slice (some ⟨go21, 0, none⟩) x9_1.length co23)) (v1 := (.slice (some ⟨go21, 0, none⟩) x9_1.length co23)) (ok := (fun k_ => some k_ ≠ (v111 : Value).ownBlock)) (rI HO_7.out) hg (.inl rfl)); have n1_ := Q9a.mk (Kd.R_after (v := (.slice (some ⟨go21, 0, none⟩) x9_1.length co23)) (v1 := (.slice (some ⟨go21, 0, none⟩) x9_1.length co23)) (ok := (fun k_ => some k_ ≠ (v108 : Value).ownBlock)) (rI HO_8.out) hg (.inl rfl)); have n2_ := Q9a.mk (hp_); have n3_ := Q9a.mk (blk_grown (g := gb106) (o := .cells #[.int .i64 a0_0, .int .i64 a0_1, .slice A0_2 l0_2.length c0_2] 24 (0, 0)) (kI BK106.out) hg (Kd.R_ne HO_9.out BK106.out (by decide))); have n4_ := Q9a.mk ((by rw [hw]; exact bS (HB.out) GB21.out : Below w.heap.size w w25)); clear HO_7; clear HO_8; clear HO_9; clear BK106; clear HB; have HO_7 := n0_; have HO_8 := n1_; have HO_9 := n2_; have BK106 := n3_; have HB := n4_; clear n0_ n1_ n2_ n3_ n4_; clear hg hw hp_))
         go_loopg [54] k1 (fun kq v54 w' => ∃ (x9_2 : List Int) (x54_2 : Int), v54 = .int .i64 x54_2 ∧ Q9a (field_multiply.l1 kq t107 t110 x9_2 x10_1 (rd x9_1 (ji17)) (x9_1.length : Int) x54_2 a0_0 a0_1 l0_2 = some r) ∧ Q9a (kq ≤ k1) ∧ Q9a (Kd.R (Kd.int .i64) 3 w' w.heap.size (fun k_ => some k_ ≠ (v111 : Value).ownBlock ∧ some k_ ≠ ((.slice (some ⟨go21, 0, none⟩) x9_1.length co23) : Value).ownBlock) v108 t107) ∧ Q9a (Kd.R (Kd.int .i64) 3 w' w.heap.size (fun k_ => some k_ ≠ (v108 : Value).ownBlock ∧ some k_ ≠ ((.slice (some ⟨go21, 0, none⟩) x9_1.length co23) : Value).ownBlock) v111 t110) ∧ Q9a (Kd.R (Kd.int .i64) 3 w' w.heap.size (fun k_ => some k_ ≠ (v108 : Value).ownBlock ∧ some k_ ≠ (v111 : Value).ownBlock) (.slice (some ⟨go21, 0, none⟩) x9_1.length co23) x9_2) ∧ Q9a (w'.heap[gb106]? = some (.cells #[.int .i64 a0_0, .int .i64 a0_1, (.slice A0_2 l0_2.length c0_2)] 24 (0, 0))) ∧ Q9a (Below w.heap.size w w'))
         case atStart => exact ⟨(y118), (0), (by first | rfl | (simp; done) | (simp [*]; done)), H', ⟨Nat.le_refl _⟩, ⟨rI HO_7.out⟩, ⟨rI HO_8.out⟩, ⟨rI HO_9.out⟩, ⟨kI BK106.out⟩, ⟨by repeat (first | (with_reducible first | exact HB.out | apply bA | apply bN | apply bD | refine bS ?_ GE106.out) | exact HB.out)⟩⟩
         case round =>
          clear H';try clear c1
          try clear p1
          try clear q1
          try clear hx1
          try clear c2
          try clear p2
          try clear q2
          try clear hx2
          try clear qi2
          try clear c6
          try clear c6b0
          try clear c6b1
          try clear p6
          try clear c7
          try clear c7b0
          try clear c7b1
          try clear p11
          try clear q11
          try clear hx11
          try clear c16
          try clear c16b0
          try clear c18
          try clear c18b0
          try clear c19
          try clear c19b0
          try clear c20
          try clear c20b0
          try clear c20b1
          try clear p21
          try clear q21
          try clear hx21
          try clear qi21
          try clear hf21
          try clear hcz12_0
          try clear hcz12_1
          try clear hcz12_2
          try clear hcz15_0
          try clear hcz15_1
          try clear hcz15_2
          try clear hcz22_0
          try clear hcz22_1
          try clear hcz22_2
          try clear hfz12_0
          try clear hfz12_1
          try clear hfz12_2
          try clear hfz15_0
          try clear hfz15_1
          try clear hfz15_2
          try clear hfz22_0
          try clear hfz22_1
          try clear hfz22_2
          try clear hx117_0
          try clear hx21_0
          try clear p117
          try clear p2
          try clear p21
          try clear p6
          try clear q117
          try clear q21
          obtain ⟨x9_2, x54_2, rfl, HA, HK2, HO_7, HO_8, HO_9, BK106, HB⟩ := hrel;have hl9_2 := (Kd.R_reads' HO_9.out).1;rw [hl9_2] at HO_9;(try simp only [hl9_2])
          (try simp only [hl9_2] at BK106)
          (try simp only [hl9_2] at HO_7)
          (try simp only [hl9_2] at HO_8)
          cases gk with
          | zero => exact absurd HA.out (by simp [field_multiply.l1])
          | succ k2 =>
           have H := HA.out;clear HA;simp only [field_multiply.l1] at H;by_cases c26 : x54_2 < (x9_1.length : Int)
           ·rw [if_pos c26] at H;have c26b0 : decide (x54_2 < (x9_1.length : Int)) = true := decide_eq_true c26;(try (have c26b0h := c26b0; rw [hl9_2] at c26b0h))
            clear c26;by_cases c27 : a0_1 > 1
            ·rw [if_pos c27] at H;have c27b0 : decide (1 < a0_1) = true := decide_eq_true c27;clear c27;by_cases c28 : 0 ≤ x54_2
             ·rw [if_pos c28] at H;have c28b0 : decide (0 ≤ x54_2) = true := decide_eq_true c28;clear c28;by_cases c29 : x54_2 < (l0_2.length : Int)
              ·rw [if_pos c29] at H;have c29b0 : decide (x54_2 < (l0_2.length : Int)) = true := decide_eq_true c29;(try (have c29b0h := c29b0; rw [hl9_2] at c29b0h))
               clear c29;by_cases c30 : x54_2 < (x9_2.length : Int)
               ·rw [if_pos c30] at H;have c30b0 : decide (x54_2 < (x9_2.length : Int)) = true := decide_eq_true c30;(try (have c30b0h := c30b0; rw [hl9_2] at c30b0h))
                clear c30;by_cases c31 : 0 ≤ x10_1
                ·rw [if_pos c31] at H;have c31b0 : decide (0 ≤ x10_1) = true := decide_eq_true c31;clear c31;by_cases c32 : x10_1 < (t110.length : Int)
                 ·rw [if_pos c32] at H;have c32b0 : decide (x10_1 < (t110.length : Int)) = true := decide_eq_true c32;(try (have c32b0h := c32b0; rw [hl9_2] at c32b0h))
                  clear c32;by_cases c33 : x54_2 < (t107.length : Int)
                  ·rw [if_pos c33] at H;have c33b0 : decide (x54_2 < (t107.length : Int)) = true := decide_eq_true c33;(try (have c33b0h := c33b0; rw [hl9_2] at c33b0h))
                   clear c33;by_cases c34 : a0_0 = 0
                   ·rw [if_pos c34] at H;exact absurd H (by simp)
                   rw [if_neg c34] at H;have c34b0 : (a0_0 == 0) = false := beq_eq_false_iff_ne.mpr c34;have c34b1 : (a0_0 != 0) = true := bne_iff_ne.mpr c34;obtain ⟨y123, hy123⟩ : ∃ y_ : List Int, y_ = (x9_2.set (x54_2 : Int).toNat (Int.tmod (wrap64 ((wrap64 ((rd x9_2 x54_2) + (wrap64 ((wrap64 (a0_0 - (rd x9_1 (ji17)))) * (rd l0_2 x54_2))))) + (wrap64 ((rd t110 x10_1) * (rd t107 x54_2))))) a0_0)) := ⟨_, rfl⟩;replace H : (field_multiply.l1 k2 t107 t110 y123 x10_1 (rd x9_1 (ji17)) (x9_1.length : Int) (wrap64 (x54_2 + 1)) a0_0 a0_1 l0_2) = some r := by first | (rw [hy123]; with_reducible exact H) | (have H2_ := (Option.bind_some _ _).symm.trans H; rw [hy123]; with_reducible exact H2_) | (have H2_ := (Option.bind_some _ _).symm.trans H; with_reducible exact H2_) | with_reducible exact H | (rw [hy123]; exact H) | exact H
                   have Ny123 := Q9a.mk hy123;clear hy123;have H' := Q9a.mk H;clear H;have hcz36_0 : wr.cell? ⟨gb106, 0, none⟩ = some (.int .i64 a0_0) := (kC BK106.out 0).trans rfl;have hcz36_1 : wr.cell? ⟨gb106, 1, none⟩ = some (.int .i64 a0_1) := (kC BK106.out 1).trans rfl;have hcz36_2 : wr.cell? ⟨gb106, 2, none⟩ = some (.slice A0_2 l0_2.length c0_2) := (kC BK106.out 2).trans rfl;have hfz36_0 := kF BK106.out 0;have hfz36_1 := kF BK106.out 1;have hfz36_2 := kF BK106.out 2;have p119 : 0 ≤ (x54_2 : Int) := of_decide_eq_true (by first | (with_reducible assumption) | assumption);have q119 : x54_2 < (l0_2.length : Int) := of_decide_eq_true (by first | (with_reducible assumption) | assumption);obtain ⟨ad119, e119, hx119_0⟩ := Kd.at_int HR0_2.out x54_2 p119 q119
                   cases e119
                   replace hx119_0 := (HB.out.cell (World.block_lt_of_cell? w _ hx119_0)).trans hx119_0;replace p119 := eq_true p119;replace q119 := eq_true q119;try go_wp2
                   have n0_ := Q9a.mk (Kd.rD HO_7.out);have n1_ := Q9a.mk (Kd.rD HO_8.out);have n2_ := Q9a.mk (Kd.rD HO_9.out);have n3_ := Q9a.mk (kD BK106.out);have n4_ := Q9a.mk (bD HB.out);clear HO_7;clear HO_8;clear HO_9;clear BK106;clear HB;have HO_7 := n0_;have HO_8 := n1_;have HO_9 := n2_;have BK106 := n3_;have HB := n4_;clear n0_ n1_ n2_ n3_ n4_;have p120 : 0 ≤ (x54_2 : Int) := of_decide_eq_true (by first | (with_reducible assumption) | assumption);have q120 : x54_2 < (x9_2.length : Int) := of_decide_eq_true (by first | (with_reducible assumption) | assumption);obtain ⟨ad120, e120, hx120_0⟩ := Kd.at_int (Kd.R_reads' HO_9.out).2.2 x54_2 p120 q120;obtain rfl : (⟨go21, 0, none⟩ : Addr) = ad120 := (by injection e120);(first | simp only [add_plain] at hx120_0 | simp only [add_at] at hx120_0 | simp only [Addr.add, Nat.zero_add] at hx120_0 | skip)
                   replace p120 := eq_true p120;replace q120 := eq_true q120;obtain ⟨Ao38, co38, eo38⟩ := Kd.R_slice HO_8.out;(first | subst eo38 | (injection eo38 with f1_ f2_ f3_; have f4_ := f1_.symm; have f5_ := f3_.symm; clear f1_ f2_ f3_; subst f4_; subst f5_))
                   have p121 : 0 ≤ (x10_1 : Int) := of_decide_eq_true (by first | (with_reducible assumption) | assumption);have q121 : x10_1 < (t110.length : Int) := of_decide_eq_true (by first | (with_reducible assumption) | assumption);obtain ⟨ad121, e121, hx121_0⟩ := Kd.at_int (Kd.R_reads' HO_8.out).2.2 x10_1 p121 q121
                   cases e121
                   replace p121 := eq_true p121;replace q121 := eq_true q121;obtain ⟨Ao39, co39, eo39⟩ := Kd.R_slice HO_7.out;(first | subst eo39 | (injection eo39 with f1_ f2_ f3_; have f4_ := f1_.symm; have f5_ := f3_.symm; clear f1_ f2_ f3_; subst f4_; subst f5_))
                   have p122 : 0 ≤ (x54_2 : Int) := of_decide_eq_true (by first | (with_reducible assumption) | assumption);have q122 : x54_2 < (t107.length : Int) := of_decide_eq_true (by first | (with_reducible assumption) | assumption);obtain ⟨ad122, e122, hx122_0⟩ := Kd.at_int (Kd.R_reads' HO_7.out).2.2 x54_2 p122 q122
                   cases e122
                   replace p122 := eq_true p122;replace q122 := eq_true q122;have p35 : 0 ≤ (x54_2 : Int) := of_decide_eq_true (by first | (with_reducible assumption) | assumption);have q35 : (x54_2 : Int) < ((x9_2.length : Int) : Int) := of_decide_eq_true (by first | (with_reducible assumption) | assumption);obtain ⟨hx35_0, hf35_0⟩ := Kd.R_celln 0 HO_9.out (x54_2 : Int) p35 q35;replace p35 := eq_true p35;replace q35 := eq_true q35;have HP40 := Kd.R_putn HO_9.out (x54_2 : Int) (Int.tmod (wrap64 ((wrap64 ((rd x9_2 x54_2) + (wrap64 ((wrap64 (a0_0 - (rd x9_1 (ji17)))) * (rd l0_2 x54_2))))) + (wrap64 ((rd t110 x10_1) * (rd t107 x54_2))))) a0_0);rw [← Ny123.out] at HP40;have HQ40 := Q9a.mk HP40;clear HP40;refine start_ (n := 28) (S := fun w' => w'.cell? ⟨gb106, 0, none⟩ = some (.int .i64 a0_0) ∧ w'.cell? ⟨gb106, 1, none⟩ = some (.int .i64 a0_1) ∧ w'.cell? ⟨gb106, 2, none⟩ = some (.slice (some ad119) l0_2.length c0_2) ∧ w'.cell? ⟨go21, (x54_2).toNat, none⟩ = some (.int .i64 (rd x9_2 x54_2)) ∧ w'.cell? (ad121.add (x10_1).toNat) = some (.int .i64 (rd t110 x10_1)) ∧ w'.cell? (ad122.add (x54_2).toNat) = some (.int .i64 (rd t107 x54_2))) (ds := [27]) #[fB,fB,fB,fB,fB,fB,fB,fB,fB,fB,fB,fB,fB,fB,fB,fB,fB,fB,fB,fB,fB,fB,fB,fB,fB,fB,fB,fB] (by kernel_rfl) rfl rfl ⟨(kC BK106.out 0).trans rfl, (kC BK106.out 1).trans rfl, (kC BK106.out 2).trans rfl, hx120_0, hx121_0, hx122_0⟩ (fun hHeld => ?_); refine with_tabW field_multiply.tab15 field_multiply.bits15 (fun HT_ HW_ => ?_);generalize wr.drew = w37 at HO_7 HO_8 HO_9 BK106 HB HQ40 hf35_0 hx120_0 hx121_0 hx122_0 hx35_0 hHeld ⊢;refine pT 0 65 rfl HT_.out ?_;refine pT 1 66 rfl HT_.out ?_;refine pT 2 67 rfl HT_.out ?_;refine pT 3 68 rfl HT_.out ?_;refine pT 4 69 rfl HT_.out ?_;refine pT 6 71 rfl HT_.out ?_;refine pT 8 73 rfl HT_.out ?_;refine pT 10 75 rfl HT_.out ?_;refine pT 13 78 rfl HT_.out ?_;refine pT 14 79 rfl HT_.out ?_;refine pT 15 80 rfl HT_.out ?_;refine pT 17 82 rfl HT_.out ?_;refine pT 18 83 rfl HT_.out ?_;refine pT 19 84 rfl HT_.out ?_;refine pT 23 88 rfl HT_.out ?_;refine tT 5 70 rfl HT_.out HW_.out hHeld ?_;refine tT 7 72 rfl HT_.out HW_.out hHeld ?_;refine pT 9 74 rfl HT_.out ?_;refine pT 11 76 rfl HT_.out ?_;refine pT 12 77 rfl HT_.out ?_;refine tT 16 81 rfl HT_.out HW_.out hHeld ?_;refine tT 20 85 rfl HT_.out HW_.out hHeld ?_;refine pT 21 86 rfl HT_.out ?_;refine pT 22 87 rfl HT_.out ?_;refine tT 24 89 rfl HT_.out HW_.out hHeld ?_;refine pT 25 90 rfl HT_.out ?_;refine pT 26 91 rfl HT_.out ?_;refine last_ (i := 27) (N := none) #[tB,tB,tB,tB,tB,tB,tB,tB,tB,tB,tB,tB,tB,tB,tB,tB,tB,tB,tB,tB,tB,tB,tB,tB,tB,tB,tB,tB] rfl rfl (one_of HT_.out (by kernel_rfl)) (by decide) (fun K hK => ?_);refine skip_ (w1 := ?_) (by rfl) rfl ?_ ?_;rotate_left
                   ·go_simp;rfl
                   refine hK.out _ _ ?_;clear hK K;refine done_ (done_of HT_.out (by kernel_rfl)) ?_;try go_wp2
                   (try simp only [← hl9_2])
                   go_roundg k2
                   case measure => have := HK1.out; have := HK2.out; omega
                   case rel => exact ⟨(y123), (wrap64 (x54_2 + 1)), (by first | rfl | (simp; done) | (simp [*]; done)), H', ⟨by have := HK1.out; have := HK2.out; omega⟩, ⟨by (try simp only [hl9_2]); (with_reducible repeat (first | apply Kd.rA | apply Kd.rN | apply Kd.rD)); exact Kd.R_mono (Kd.R_far (p := ⟨go21, (x54_2 : Int).toNat, none⟩) (Kd.R_mono HO_7.out (fun k_ hk => (⟨hk, fun e_ => hk.2 (by rw [e_]; rfl)⟩ : _ ∧ k_ ≠ go21))) (fun _ hk => hk.2) (.int .i64 (Int.tmod (wrap64 ((wrap64 ((rd x9_2 x54_2) + (wrap64 ((wrap64 (a0_0 - (rd x9_1 (ji17)))) * (rd l0_2 x54_2))))) + (wrap64 ((rd t110 x10_1) * (rd t107 x54_2))))) a0_0))) (fun _ hk => ⟨hk.1.1, hk.1.2⟩)⟩, ⟨by (try simp only [hl9_2]); (with_reducible repeat (first | apply Kd.rA | apply Kd.rN | apply Kd.rD)); exact Kd.R_mono (Kd.R_far (p := ⟨go21, (x54_2 : Int).toNat, none⟩) (Kd.R_mono HO_8.out (fun k_ hk => (⟨hk, fun e_ => hk.2 (by rw [e_]; rfl)⟩ : _ ∧ k_ ≠ go21))) (fun _ hk => hk.2) (.int .i64 (Int.tmod (wrap64 ((wrap64 ((rd x9_2 x54_2) + (wrap64 ((wrap64 (a0_0 - (rd x9_1 (ji17)))) * (rd l0_2 x54_2))))) + (wrap64 ((rd t110 x10_1) * (rd t107 x54_2))))) a0_0))) (fun _ hk => ⟨hk.1.1, hk.1.2⟩)⟩, ⟨by (try simp only [hl9_2]); (with_reducible repeat (first | apply Kd.rA | apply Kd.rN | apply Kd.rD)); exact HQ40.out⟩, ⟨by (try simp only [hl9_2]); (with_reducible repeat (first | refine kN ?_ _ | refine kD ?_ | refine kA ?_ _)); refine blk_far ?_ (by have h_ := Kd.R_ne HO_9.out BK106.out (by decide); intro e_; exact h_ (by rw [e_]; rfl)) _; (with_reducible repeat (first | refine kN ?_ _ | refine kD ?_ | refine kA ?_ _)); exact BK106.out⟩, ⟨by repeat (first | (with_reducible first | exact HB.out | apply bA | apply bN | apply bD | refine bS ?_ GB21.out | refine bS ?_ GE106.out) | exact HB.out)⟩⟩
                  rw [if_neg c33] at H;exact absurd H (by simp)
                 rw [if_neg c32] at H;exact absurd H (by simp)
                rw [if_neg c31] at H;exact absurd H (by simp)
               rw [if_neg c30] at H;exact absurd H (by simp)
              rw [if_neg c29] at H;exact absurd H (by simp)
             rw [if_neg c28] at H;exact absurd H (by simp)
            rw [if_neg c27] at H;have c27b0 : decide (1 < a0_1) = false := decide_eq_false c27;clear c27;by_cases c41 : 0 ≤ x54_2
            ·rw [if_pos c41] at H;have c41b0 : decide (0 ≤ x54_2) = true := decide_eq_true c41;clear c41;by_cases c42 : x54_2 < (x9_2.length : Int)
             ·rw [if_pos c42] at H;have c42b0 : decide (x54_2 < (x9_2.length : Int)) = true := decide_eq_true c42;(try (have c42b0h := c42b0; rw [hl9_2] at c42b0h))
              clear c42;by_cases c43 : 0 ≤ x10_1
              ·rw [if_pos c43] at H;have c43b0 : decide (0 ≤ x10_1) = true := decide_eq_true c43;clear c43;by_cases c44 : x10_1 < (t110.length : Int)
               ·rw [if_pos c44] at H;have c44b0 : decide (x10_1 < (t110.length : Int)) = true := decide_eq_true c44;(try (have c44b0h := c44b0; rw [hl9_2] at c44b0h))
                clear c44;by_cases c45 : x54_2 < (t107.length : Int)
                ·rw [if_pos c45] at H;have c45b0 : decide (x54_2 < (t107.length : Int)) = true := decide_eq_true c45;(try (have c45b0h := c45b0; rw [hl9_2] at c45b0h))
                 clear c45;by_cases c46 : a0_0 = 0
                 ·rw [if_pos c46] at H;exact absurd H (by simp)
                 rw [if_neg c46] at H;have c46b0 : (a0_0 == 0) = false := beq_eq_false_iff_ne.mpr c46;have c46b1 : (a0_0 != 0) = true := bne_iff_ne.mpr c46;obtain ⟨y127, hy127⟩ : ∃ y_ : List Int, y_ = (x9_2.set (x54_2 : Int).toNat (Int.tmod (wrap64 ((wrap64 ((rd x9_2 x54_2) + (wrap64 (0)))) + (wrap64 ((rd t110 x10_1) * (rd t107 x54_2))))) a0_0)) := ⟨_, rfl⟩;replace H : (field_multiply.l1 k2 t107 t110 y127 x10_1 (rd x9_1 (ji17)) (x9_1.length : Int) (wrap64 (x54_2 + 1)) a0_0 a0_1 l0_2) = some r := by first | (rw [hy127]; with_reducible exact H) | (have H2_ := (Option.bind_some _ _).symm.trans H; rw [hy127]; with_reducible exact H2_) | (have H2_ := (Option.bind_some _ _).symm.trans H; with_reducible exact H2_) | with_reducible exact H | (rw [hy127]; exact H) | exact H
                 have Ny127 := Q9a.mk hy127;clear hy127;have H' := Q9a.mk H;clear H;have hcz48_0 : wr.cell? ⟨gb106, 0, none⟩ = some (.int .i64 a0_0) := (kC BK106.out 0).trans rfl;have hcz48_1 : wr.cell? ⟨gb106, 1, none⟩ = some (.int .i64 a0_1) := (kC BK106.out 1).trans rfl;have hcz48_2 : wr.cell? ⟨gb106, 2, none⟩ = some (.slice A0_2 l0_2.length c0_2) := (kC BK106.out 2).trans rfl;have hfz48_0 := kF BK106.out 0;have hfz48_1 := kF BK106.out 1;have hfz48_2 := kF BK106.out 2;try go_wp2
                 have n0_ := Q9a.mk (Kd.rD HO_7.out);have n1_ := Q9a.mk (Kd.rD HO_8.out);have n2_ := Q9a.mk (Kd.rD HO_9.out);have n3_ := Q9a.mk (kD BK106.out);have n4_ := Q9a.mk (bD HB.out);clear HO_7;clear HO_8;clear HO_9;clear BK106;clear HB;have HO_7 := n0_;have HO_8 := n1_;have HO_9 := n2_;have BK106 := n3_;have HB := n4_;clear n0_ n1_ n2_ n3_ n4_;have p124 : 0 ≤ (x54_2 : Int) := of_decide_eq_true (by first | (with_reducible assumption) | assumption);have q124 : x54_2 < (x9_2.length : Int) := of_decide_eq_true (by first | (with_reducible assumption) | assumption);obtain ⟨ad124, e124, hx124_0⟩ := Kd.at_int (Kd.R_reads' HO_9.out).2.2 x54_2 p124 q124;obtain rfl : (⟨go21, 0, none⟩ : Addr) = ad124 := (by injection e124);(first | simp only [add_plain] at hx124_0 | simp only [add_at] at hx124_0 | simp only [Addr.add, Nat.zero_add] at hx124_0 | skip)
                 replace p124 := eq_true p124;replace q124 := eq_true q124;obtain ⟨Ao50, co50, eo50⟩ := Kd.R_slice HO_8.out;(first | subst eo50 | (injection eo50 with f1_ f2_ f3_; have f4_ := f1_.symm; have f5_ := f3_.symm; clear f1_ f2_ f3_; subst f4_; subst f5_))
                 have p125 : 0 ≤ (x10_1 : Int) := of_decide_eq_true (by first | (with_reducible assumption) | assumption);have q125 : x10_1 < (t110.length : Int) := of_decide_eq_true (by first | (with_reducible assumption) | assumption);obtain ⟨ad125, e125, hx125_0⟩ := Kd.at_int (Kd.R_reads' HO_8.out).2.2 x10_1 p125 q125
                 cases e125
                 replace p125 := eq_true p125;replace q125 := eq_true q125;obtain ⟨Ao51, co51, eo51⟩ := Kd.R_slice HO_7.out;(first | subst eo51 | (injection eo51 with f1_ f2_ f3_; have f4_ := f1_.symm; have f5_ := f3_.symm; clear f1_ f2_ f3_; subst f4_; subst f5_))
                 have p126 : 0 ≤ (x54_2 : Int) := of_decide_eq_true (by first | (with_reducible assumption) | assumption);have q126 : x54_2 < (t107.length : Int) := of_decide_eq_true (by first | (with_reducible assumption) | assumption);obtain ⟨ad126, e126, hx126_0⟩ := Kd.at_int (Kd.R_reads' HO_7.out).2.2 x54_2 p126 q126
                 cases e126
                 replace p126 := eq_true p126;replace q126 := eq_true q126;have p47 : 0 ≤ (x54_2 : Int) := of_decide_eq_true (by first | (with_reducible assumption) | assumption);have q47 : (x54_2 : Int) < ((x9_2.length : Int) : Int) := of_decide_eq_true (by first | (with_reducible assumption) | assumption);obtain ⟨hx47_0, hf47_0⟩ := Kd.R_celln 0 HO_9.out (x54_2 : Int) p47 q47;replace p47 := eq_true p47;replace q47 := eq_true q47;have HP52 := Kd.R_putn HO_9.out (x54_2 : Int) (Int.tmod (wrap64 ((wrap64 ((rd x9_2 x54_2) + (wrap64 (0)))) + (wrap64 ((rd t110 x10_1) * (rd t107 x54_2))))) a0_0);rw [← Ny127.out] at HP52;have HQ52 := Q9a.mk HP52;clear HP52;refine start_ (n := 28) (S := fun w' => w'.cell? ⟨gb106, 0, none⟩ = some (.int .i64 a0_0) ∧ w'.cell? ⟨gb106, 1, none⟩ = some (.int .i64 a0_1) ∧ w'.cell? ⟨gb106, 2, none⟩ = some (.slice A0_2 l0_2.length c0_2) ∧ w'.cell? ⟨go21, (x54_2).toNat, none⟩ = some (.int .i64 (rd x9_2 x54_2)) ∧ w'.cell? (ad125.add (x10_1).toNat) = some (.int .i64 (rd t110 x10_1)) ∧ w'.cell? (ad126.add (x54_2).toNat) = some (.int .i64 (rd t107 x54_2))) (ds := [27]) #[fB,fB,fB,fB,fB,fB,fB,fB,fB,fB,fB,fB,fB,fB,fB,fB,fB,fB,fB,fB,fB,fB,fB,fB,fB,fB,fB,fB] (by kernel_rfl) rfl rfl ⟨(kC BK106.out 0).trans rfl, (kC BK106.out 1).trans rfl, (kC BK106.out 2).trans rfl, hx124_0, hx125_0, hx126_0⟩ (fun hHeld => ?_); refine with_tabW field_multiply.tab15 field_multiply.bits15 (fun HT_ HW_ => ?_);generalize wr.drew = w49 at HO_7 HO_8 HO_9 BK106 HB HQ52 hf47_0 hx124_0 hx125_0 hx126_0 hx47_0 hHeld ⊢;refine pT 0 65 rfl HT_.out ?_;refine pT 1 66 rfl HT_.out ?_;refine pT 2 67 rfl HT_.out ?_;refine pT 3 68 rfl HT_.out ?_;refine pT 4 69 rfl HT_.out ?_;refine pT 6 71 rfl HT_.out ?_;refine pT 8 73 rfl HT_.out ?_;refine pT 10 75 rfl HT_.out ?_;refine pT 13 78 rfl HT_.out ?_;refine pT 14 79 rfl HT_.out ?_;refine pT 15 80 rfl HT_.out ?_;refine pT 17 82 rfl HT_.out ?_;refine pT 18 83 rfl HT_.out ?_;refine pT 19 84 rfl HT_.out ?_;refine pT 23 88 rfl HT_.out ?_;refine tT 5 70 rfl HT_.out HW_.out hHeld ?_;refine tT 7 72 rfl HT_.out HW_.out hHeld ?_;refine pT 9 74 rfl HT_.out ?_;refine pT 11 76 rfl HT_.out ?_;refine pT 12 77 rfl HT_.out ?_;refine tT 16 81 rfl HT_.out HW_.out hHeld ?_;refine tT 20 85 rfl HT_.out HW_.out hHeld ?_;refine pT 21 86 rfl HT_.out ?_;refine pT 22 87 rfl HT_.out ?_;refine tT 24 89 rfl HT_.out HW_.out hHeld ?_;refine pT 25 90 rfl HT_.out ?_;refine pT 26 91 rfl HT_.out ?_;refine last_ (i := 27) (N := none) #[tB,tB,tB,tB,tB,tB,tB,tB,tB,tB,tB,tB,tB,tB,tB,tB,tB,tB,tB,tB,tB,tB,tB,tB,tB,tB,tB,tB] rfl rfl (one_of HT_.out (by kernel_rfl)) (by decide) (fun K hK => ?_);refine skip_ (w1 := ?_) (by rfl) rfl ?_ ?_;rotate_left
                 ·go_simp;rfl
                 refine hK.out _ _ ?_;clear hK K;refine done_ (done_of HT_.out (by kernel_rfl)) ?_;try go_wp2
                 (try simp only [← hl9_2])
                 go_roundg k2
                 case measure => have := HK1.out; have := HK2.out; omega
                 case rel => exact ⟨(y127), (wrap64 (x54_2 + 1)), (by first | rfl | (simp; done) | (simp [*]; done)), H', ⟨by have := HK1.out; have := HK2.out; omega⟩, ⟨by (try simp only [hl9_2]); (with_reducible repeat (first | apply Kd.rA | apply Kd.rN | apply Kd.rD)); exact Kd.R_mono (Kd.R_far (p := ⟨go21, (x54_2 : Int).toNat, none⟩) (Kd.R_mono HO_7.out (fun k_ hk => (⟨hk, fun e_ => hk.2 (by rw [e_]; rfl)⟩ : _ ∧ k_ ≠ go21))) (fun _ hk => hk.2) (.int .i64 (Int.tmod (wrap64 ((wrap64 ((rd x9_2 x54_2) + (wrap64 (0)))) + (wrap64 ((rd t110 x10_1) * (rd t107 x54_2))))) a0_0))) (fun _ hk => ⟨hk.1.1, hk.1.2⟩)⟩, ⟨by (try simp only [hl9_2]); (with_reducible repeat (first | apply Kd.rA | apply Kd.rN | apply Kd.rD)); exact Kd.R_mono (Kd.R_far (p := ⟨go21, (x54_2 : Int).toNat, none⟩) (Kd.R_mono HO_8.out (fun k_ hk => (⟨hk, fun e_ => hk.2 (by rw [e_]; rfl)⟩ : _ ∧ k_ ≠ go21))) (fun _ hk => hk.2) (.int .i64 (Int.tmod (wrap64 ((wrap64 ((rd x9_2 x54_2) + (wrap64 (0)))) + (wrap64 ((rd t110 x10_1) * (rd t107 x54_2))))) a0_0))) (fun _ hk => ⟨hk.1.1, hk.1.2⟩)⟩, ⟨by (try simp only [hl9_2]); (with_reducible repeat (first | apply Kd.rA | apply Kd.rN | apply Kd.rD)); exact HQ52.out⟩, ⟨by (try simp only [hl9_2]); (with_reducible repeat (first | refine kN ?_ _ | refine kD ?_ | refine kA ?_ _)); refine blk_far ?_ (by have h_ := Kd.R_ne HO_9.out BK106.out (by decide); intro e_; exact h_ (by rw [e_]; rfl)) _; (with_reducible repeat (first | refine kN ?_ _ | refine kD ?_ | refine kA ?_ _)); exact BK106.out⟩, ⟨by repeat (first | (with_reducible first | exact HB.out | apply bA | apply bN | apply bD | refine bS ?_ GB21.out | refine bS ?_ GE106.out) | exact HB.out)⟩⟩
                rw [if_neg c45] at H;exact absurd H (by simp)
               rw [if_neg c44] at H;exact absurd H (by simp)
              rw [if_neg c43] at H;exact absurd H (by simp)
             rw [if_neg c42] at H;exact absurd H (by simp)
            rw [if_neg c41] at H;exact absurd H (by simp)
           rw [if_neg c26] at H;have c26b0 : decide (x54_2 < (x9_1.length : Int)) = false := decide_eq_false c26;(try (have c26b0h := c26b0; rw [hl9_2] at c26b0h))
           clear c26;have H' := Q9a.mk H;clear H;go_wp2
           (try simp only [← hl9_2])
           subst hji17;go_roundg k2
           case measure => have := HK1.out; have := HK2.out; omega
           case rel => exact ⟨(x9_2), (wrap64 (x10_1 - 1)), (by first | rfl | (simp; done) | (simp [*]; done)), H', ⟨by have := HK1.out; have := HK2.out; omega⟩, ⟨by (try simp only [hl9_2]); (with_reducible repeat (first | apply Kd.rA | apply Kd.rN | apply Kd.rD)); exact HO_7.out⟩, ⟨by (try simp only [hl9_2]); (with_reducible repeat (first | apply Kd.rA | apply Kd.rN | apply Kd.rD)); exact HO_8.out⟩, ⟨by (try simp only [hl9_2]); (with_reducible repeat (first | apply Kd.rA | apply Kd.rN | apply Kd.rD)); exact HO_9.out⟩, ⟨by (try simp only [hl9_2]); (with_reducible repeat (first | refine kN ?_ _ | refine kD ?_ | refine kA ?_ _)); exact BK106.out⟩, ⟨by repeat (first | (with_reducible first | exact HB.out | apply bA | apply bN | apply bD | refine bS ?_ GE106.out) | exact HB.out)⟩⟩
        rw [if_neg c20] at H;exact absurd H (by simp)
       rw [if_neg c19] at H;exact absurd H (by simp)
      rw [if_neg c18] at H;exact absurd H (by simp)
     rw [if_neg c16] at H;have c16b0 : decide (0 ≤ x10_1) = false := decide_eq_false c16;clear c16;replace H := Option.bind_eq_some_iff.mp H;obtain ⟨t116, A530, H⟩ := H;replace H : (some t116) = some r := H;have A53 := Q9a.mk A530;clear A530;obtain rfl := Option.some.inj H;have hcz54_0 : wr.cell? ⟨gb106, 0, none⟩ = some (.int .i64 a0_0) := (kC BK106.out 0).trans rfl;have hcz54_1 : wr.cell? ⟨gb106, 1, none⟩ = some (.int .i64 a0_1) := (kC BK106.out 1).trans rfl;have hcz54_2 : wr.cell? ⟨gb106, 2, none⟩ = some (.slice A0_2 l0_2.length c0_2) := (kC BK106.out 2).trans rfl;have hfz54_0 := kF BK106.out 0;have hfz54_1 := kF BK106.out 1;have hfz54_2 := kF BK106.out 2;obtain ⟨Ao55, co55, eo55⟩ := Kd.R_slice HO_9.out;subst eo55;go_wp2_with (first | ((with_reducible refine gC (f := 96) rfl ?_); refine gL (some 96) rfl rfl Try.func96 (by kernel_rfl) rfl #[.slice Ao55 x9_1.length co55, .int .i64 a0_0] rfl (by (try simp only [sm1, sm2, sm3]); first | done | rfl | (simp only [sm4, sm5]; rfl)) ?_; (with_reducible refine (field_valueOf.calls k1 _ _ x9_1 a0_0 t116 _ ?side1 ?side2 A53.out).mono ?_); (case side1 => repeat (first | exact (Kd.R_reads' HO_9.out).2.2 | with_reducible first | refine Kd.cA ?_ _ | refine Kd.cN ?_ _ | refine Kd.cD ?_)); (case side2 => exact (Kd.R_reads' HO_9.out).2.1); rintro e w' ⟨rfl, ⟨nd, rfl⟩⟩; refine ⟨_, rfl, ?_⟩))
     go_ret
     exact ⟨by first | rfl | (simp [*, eN, eS] <;> rfl), by repeat (first | (with_reducible first | exact HB.out | apply bA | apply bN | apply bD | refine bS ?_ GE106.out) | exact HB.out)⟩
  rw [if_neg c7] at H;exact absurd H (by simp)
 rw [if_neg c6] at H;exact absurd H (by simp)
end
end Go.Proofs.Ytlbddjojhcgpiaa.Hand
end
-- Pb1
section
namespace Go.Proofs.Ytlbddjojhcgpiaa.P
noncomputable section
open Go.RowKit Go.Proofs.Ytlbddjojhcgpiaa.Hand Go.Proofs.YtlbddjojhcgpiaaW.PrintWords Go.Proofs.YtlbddjojhcgpiaaW.PrintLast Go.Proofs.YtlbddjojhcgpiaaW.PrintMore
set_option linter.unusedVariables false
set_option linter.unusedSimpArgs false
def field_powers.l0 : Nat → Int → List Int → List Bool → Int → Int → Int → List Int → Option (List Int)
 | 0, _, _, _, _, _, _, _ => none
 | k + 1, x2, x7, x8, x9, x102000, x102001, x102002 => if x9 = 0 then (some x7) else (if 0 ≤ x9 then (if x9 < (x8.length : Int) then (if rdOf false x8 x9 = true then (some x7) else (if x7.length < 17592186044416 then ((field_multiply.f k x102000 x102001 x102002 x9 x2).bind fun t114 => (field_powers.l0 k x2 (x7 ++ [x9]) (x8.set (x9 : Int).toNat true) t114 x102000 x102001 x102002)) else (none))) else (none)) else (none))
def field_powers.f (k : Nat) (a0_0 : Int) (a0_1 : Int) (l0_2 : List Int) (a1 : Int) (a2 : Int) : Option (List Int) := if 0 ≤ a1 then (if (a1 : Int).toNat ≤ 281474976710656 then ((some (List.replicate (a1 : Int).toNat false : List Bool)).bind fun y105 => (if 1 < (y105.length : Int) then (field_powers.l0 k a2 (([1] : List Int)) (y105.set (1 : Int).toNat true) a2 a0_0 a0_1 l0_2) else (none))) else (none)) else (none)
theorem field_powers.calls (k : Nat) (a0_0 : Int) (a0_1 : Int) (A0_2 : Option Addr) (c0_2 : Nat) (l0_2 : List Int) (a1 : Int) (a2 : Int) (r : List Int) (w : World) (hr0_2 : Kd.C (Kd.int .i64) w A0_2 l0_2.length l0_2) (hc0_2 : l0_2.length ≤ c0_2) (h : field_powers.f k a0_0 a0_1 l0_2 a1 a2 = some r) :
  Calls Try.prog 91 #[.agg #[.int .i64 a0_0, .int .i64 a0_1, .slice A0_2 l0_2.length c0_2], .int .i64 a1, .int .i64 a2] w fun e w' => ∃ v0_ : Value, e = .returned (v0_) ∧ Kd.R (Kd.int .i64) 3 w' w.heap.size (fun _ => True) v0_ r ∧ Below w.heap.size w w' := by
 have hu24 := Try.underlying24;have HR0_2 := Q9a.mk hr0_2;have HC0_2 := Q9a.mk hc0_2;clear hr0_2 hc0_2;have HB := Q9a.mk (Below.refl w.heap.size w);have H : (if 0 ≤ a1 then (if (a1 : Int).toNat ≤ 281474976710656 then ((some (List.replicate (a1 : Int).toNat false : List Bool)).bind fun y105 => (if 1 < (y105.length : Int) then (field_powers.l0 k a2 (([1] : List Int)) (y105.set (1 : Int).toNat true) a2 a0_0 a0_1 l0_2) else (none))) else (none)) else (none)) = some r := h;clear h;obtain ⟨y102, hy102⟩ : ∃ y_ : List Int, y_ = (([1] : List Int)) := ⟨_, rfl⟩;replace H : (if 0 ≤ a1 then (if (a1 : Int).toNat ≤ 281474976710656 then ((some (List.replicate (a1 : Int).toNat false : List Bool)).bind fun y105 => (if 1 < (y105.length : Int) then (field_powers.l0 k a2 y102 (y105.set (1 : Int).toNat true) a2 a0_0 a0_1 l0_2) else (none))) else (none)) else (none)) = some r := by first | (rw [hy102]; with_reducible exact H) | (have H2_ := (Option.bind_some _ _).symm.trans H; rw [hy102]; with_reducible exact H2_) | (have H2_ := (Option.bind_some _ _).symm.trans H; with_reducible exact H2_) | with_reducible exact H | (rw [hy102]; exact H) | exact H
 have Ny102 := Q9a.mk hy102;clear hy102;by_cases c4 : 0 ≤ a1
 ·rw [if_pos c4] at H;have c4b0 := eq_true c4;have c4b1 : decide (0 ≤ a1) = true := decide_eq_true c4;clear c4;by_cases c5 : (a1 : Int).toNat ≤ 281474976710656
  ·rw [if_pos c5] at H;have c5b0 := eq_true c5;have c5b1 : decide ((a1 : Int).toNat ≤ 281474976710656) = true := decide_eq_true c5;clear c5;obtain ⟨y105, hy105⟩ : ∃ y_ : List Bool, y_ = (List.replicate (a1 : Int).toNat false) := ⟨_, rfl⟩;replace H : (if 1 < (y105.length : Int) then (field_powers.l0 k a2 y102 (y105.set (1 : Int).toNat true) a2 a0_0 a0_1 l0_2) else (none)) = some r := by first | (rw [hy105]; with_reducible exact H) | (have H2_ := (Option.bind_some _ _).symm.trans H; rw [hy105]; with_reducible exact H2_) | (have H2_ := (Option.bind_some _ _).symm.trans H; with_reducible exact H2_) | with_reducible exact H | (rw [hy105]; exact H) | exact H
   have Ny105 := Q9a.mk hy105;clear hy105;by_cases c6 : 1 < (y105.length : Int)
   ·rw [if_pos c6] at H;have c6b0 : decide (1 < (y105.length : Int)) = true := decide_eq_true c6;have c6b1 : decide (1 < y105.length) = true := decide_eq_true (by omega);clear c6;obtain ⟨y108, hy108⟩ : ∃ y_ : List Bool, y_ = (y105.set (1 : Int).toNat true) := ⟨_, rfl⟩;replace H : (field_powers.l0 k a2 y102 y108 a2 a0_0 a0_1 l0_2) = some r := by first | (rw [hy108]; with_reducible exact H) | (have H2_ := (Option.bind_some _ _).symm.trans H; rw [hy108]; with_reducible exact H2_) | (have H2_ := (Option.bind_some _ _).symm.trans H; with_reducible exact H2_) | with_reducible exact H | (rw [hy108]; exact H) | exact H
    have Ny108 := Q9a.mk hy108;clear hy108;have H' := Q9a.mk H;clear H;go_enter Try.func91, Try.ntmps91
    go_wp2_with (first | ((with_reducible refine gD (N := 3) rfl ?_); refine bE ?hg (N := 3) ?hd (cs := #[.int .i64 a0_0, .int .i64 a0_1, .slice A0_2 l0_2.length c0_2]) (t := 24) ?hr ?_; (case hd => rfl); (case hg => rfl); (case hr => first | (go_simp; done) | (go_simp; rfl)); intro gb101 hg w8 hbox hb; have n0_ := Q9a.mk (bP (bI HB.out) hb); have n1_ := Q9a.mk (hbox); have n2_ := Q9a.mk ((by rw [hg]; exact (bZ (bI HB.out)) : w.heap.size ≤ gb101)); have n3_ := n2_; clear HB; have HB := n0_; have BK101 := n1_; have GW101 := n2_; have GE101 := n3_; clear n0_ n1_ n2_ n3_; clear hb hbox hg) | ((with_reducible refine gD (N := 10) rfl ?_); refine Kd.R_lit (Kd.int .i64) _ 3 ?hg (N := 10) ?hd (xs := ([1] : List Int)) (inner := [.int .i64 1]) (ok := fun _ => True) (okp := fun _ => True) ?hr ?hp (fun _ hk => hk) trivial (Below.refl _ _) (Nat.le_refl _) (by simp) ?_; (case hd => rfl); (case hg => rfl); (case hr => first | (go_simp; done) | (go_simp; rfl)); (case hp => exact (Reps.one (show Kd.M (Kd.int .i64) _ _ _ 1 [.int .i64 1] from rfl) (Reps.none _ _))); intro v103 w9 ho10 hb hg_ hnew_; clear hg_ hnew_; (first | rw [← Ny102.out] at ho10 | (simp only [Int.reduceToNat] at ho10; rw [← Ny102.out] at ho10)); have n0_ := Q9a.mk (Kd.rL ho10 (bZ (bJ HB.out GE101.out))); have n1_ := Q9a.mk (kB (g := gb101) (o := .cells #[.int .i64 a0_0, .int .i64 a0_1, .slice A0_2 l0_2.length c0_2] 24 (0, 0)) (kI BK101.out) hb); have n2_ := Q9a.mk (bP (bJ HB.out GE101.out) hb); clear BK101; clear HB; have HO104 := n0_; have BK101 := n1_; have HB := n2_; clear n0_ n1_ n2_; clear hb ho10) | ((with_reducible refine gD (N := 12) rfl ?_); refine Kd.R_make Kd.bool _ 4 rfl (N := 12) rfl 48 _ _ rfl a1 rfl rfl Try.underlying48 (.bool false) 1 info4 rfl (by decide) (by omega) false (ok := fun _ => True) (okp := fun _ => True) rfl (fun _ hk => hk) trivial (of_decide_eq_true (by first | (with_reducible assumption) | assumption)) (Nat.le_trans (Nat.mul_le_mul_right _ (of_decide_eq_true (by first | (with_reducible assumption) | assumption) : a1.toNat ≤ 281474976710656)) (by omega)) (Below.refl _ _) (Nat.le_refl _) ?_; intro v106 w11 ho12 hb hg_ hnew_; clear hg_ hnew_; (first | rw [← Ny105.out] at ho12 | (simp only [Int.reduceToNat] at ho12; rw [← Ny105.out] at ho12)); have n0_ := Q9a.mk (Kd.R_below (rI HO104.out) hb); have n1_ := Q9a.mk (Kd.rL ho12 (bZ (bJ HB.out GE101.out))); have n2_ := Q9a.mk (kB (g := gb101) (o := .cells #[.int .i64 a0_0, .int .i64 a0_1, .slice A0_2 l0_2.length c0_2] 24 (0, 0)) (kI BK101.out) hb); have n3_ := Q9a.mk (bP (bJ HB.out GE101.out) hb); clear HO104; clear BK101; clear HB; have HO104 := n0_; have HO107 := n1_; have BK101 := n2_; have HB := n3_; clear n0_ n1_ n2_ n3_; clear hb ho12; have p7 : 0 ≤ (1 : Int) := (by omega); have q7 : (1 : Int) < ((y105.length : Int) : Int) := of_decide_eq_true (by first | (with_reducible assumption) | assumption); have qi7 : (1 < y105.length) = True := eq_true (by omega); obtain ⟨go7, co7, eo7, gb7, gl7, cl7, HG7⟩ := Kd.R_form HO107.out (by omega); (first | cases eo7 | (injection eo7 with ea_ en_ ec_; (first | subst ea_ | (injection ea_ with ea_; subst ea_)); subst ec_; clear en_)); have GB7 := Q9a.mk gb7; have GG7 := Q9a.mk HG7; clear gb7 gl7 HG7; obtain ⟨hx7_0, hf7_0⟩ := Kd.R_celln false HO107.out (1 : Int) p7 q7; (try rw [show ((1 : Int)).toNat = 1 from rfl] at hx7_0); (try simp only [Nat.reduceMul, Nat.zero_mul, Nat.zero_add, Nat.reduceAdd] at hx7_0); (try rw [show ((1 : Int)).toNat = 1 from rfl] at hf7_0); (try simp only [Nat.reduceMul, Nat.zero_mul, Nat.zero_add, Nat.reduceAdd] at hf7_0); replace p7 := eq_true p7; replace q7 := eq_true q7; obtain ⟨hy13_, hz13_⟩ := Kd.R_celln false HO107.out (1 : Int) (by omega) (of_decide_eq_true (by first | (with_reducible assumption) | assumption)); (try simp only [Int.reduceToNat, Int.toNat_zero, Int.toNat_ofNat, Nat.reduceMul, Nat.zero_mul, Nat.zero_add] at hy13_ hz13_); (try rw [show ((1 : Int)).toNat = 1 from rfl] at hy13_); (try rw [show ((1 : Int)).toNat = 1 from rfl] at hz13_); have HP13 := Kd.R_putg HO107.out (1 : Int) true) | ((with_reducible refine gate_store (t := 4) (p := 14) rfl ?_); refine store_event (t := 4) (p := 14) (v := ?vo_w14) (w1 := (w11.setCell ⟨go7, (1 : Int).toNat, none⟩ (.bool true))) ?hg ?ho ?hn ?hr ?_; (case ho => rfl); (case hg => rfl); (case hn => rfl); (case hr => first | (go_simp; done) | (go_simp; rfl)); intro w14 hw; have hg : w11.grownBy w14 (some go7) := (by rw [hw]; exact HP13.2); have hp_ : Kd.R Kd.bool 4 w14 w.heap.size (fun _ => True) (.slice (some ⟨go7, 0, none⟩) y105.length co7) y108 := (by rw [hw, Ny108.out]; exact HP13.1); clear HP13; have n0_ := Q9a.mk (blk_grown (g := gb101) (o := .cells #[.int .i64 a0_0, .int .i64 a0_1, .slice A0_2 l0_2.length c0_2] 24 (0, 0)) (kI BK101.out) hg (Kd.R_ne HO107.out BK101.out (by decide))); have n1_ := Q9a.mk (Kd.R_over' (v := (.slice (some ⟨go7, 0, none⟩) y105.length co7)) (rI HO104.out) (Kd.R_typed HO107.out) (by decide) hg); have n2_ := Q9a.mk (hp_); have n3_ := Q9a.mk ((by rw [hw]; exact bS (HB.out) GB7.out : Below w.heap.size w w14)); clear BK101; clear HO104; clear HO107; clear HB; have BK101 := n0_; have HO104 := n1_; have HO107 := n2_; have HB := n3_; clear n0_ n1_ n2_ n3_; clear hg hw hp_))
    go_loopg [7, 9] k (fun kq v7 v9 w' => ∃ (x7_1 : List Int) (x8_1 : List Bool) (x9_1 : Int), v9 = .int .i64 x9_1 ∧ Q9a (field_powers.l0 kq a2 x7_1 x8_1 x9_1 a0_0 a0_1 l0_2 = some r) ∧ Q9a (kq ≤ k) ∧ Q9a (Kd.R (Kd.int .i64) 3 w' w.heap.size (fun _ => True) v7 x7_1) ∧ Q9a (Kd.R Kd.bool 4 w' w.heap.size (fun _ => True) (.slice (some ⟨go7, 0, none⟩) y105.length co7) x8_1) ∧ Q9a (w'.heap[gb101]? = some (.cells #[.int .i64 a0_0, .int .i64 a0_1, (.slice A0_2 l0_2.length c0_2)] 24 (0, 0))) ∧ Q9a (Below w.heap.size w w'))
    case atStart => exact ⟨(y102), (y108), (a2), (by first | rfl | (simp; done) | (simp [*]; done)), H', ⟨Nat.le_refl _⟩, ⟨rI HO104.out⟩, ⟨rI HO107.out⟩, ⟨kI BK101.out⟩, ⟨bJ HB.out GE101.out⟩⟩
    case round =>
     clear H';try clear p2
     try clear c4
     try clear c4b0
     try clear c4b1
     try clear c5
     try clear c5b0
     try clear c5b1
     try clear c6
     try clear c6b0
     try clear c6b1
     try clear p7
     try clear q7
     try clear hx7
     try clear qi7
     try clear hf7
     try clear c9
     try clear hx7_0
     try clear p7
     try clear q7
     obtain ⟨x7_1, x8_1, x9_1, rfl, HA, HK1, HO_7, HO_8, BK101, HB⟩ := hrel;have hl8_1 := (Kd.R_reads' HO_8.out).1;rw [hl8_1] at HO_8;(try simp only [hl8_1])
     (try simp only [hl8_1] at BK101)
     (try simp only [hl8_1] at HO_7)
     cases gk with
     | zero => exact absurd HA.out (by simp [field_powers.l0])
     | succ k1 =>
      have H := HA.out;clear HA;simp only [field_powers.l0] at H;by_cases c15 : x9_1 = 0
      ·rw [if_pos c15] at H;have c15b0 : (x9_1 == 0) = true := beq_iff_eq.mpr c15;have c15b1 : (x9_1 != 0) = false := bne_eq_false_iff_eq.mpr c15;clear c15;obtain rfl := Option.some.inj H;go_wp2
       go_ret
       exact ⟨_, by first | rfl | (simp [*, eN, eS] <;> rfl), rI HO_7.out, bJ HB.out GE101.out⟩
      rw [if_neg c15] at H;have c15b0 : (x9_1 == 0) = false := beq_eq_false_iff_ne.mpr c15;have c15b1 : (x9_1 != 0) = true := bne_iff_ne.mpr c15;by_cases c16 : 0 ≤ x9_1
      ·rw [if_pos c16] at H;have c16b0 : decide (0 ≤ x9_1) = true := decide_eq_true c16;clear c16;by_cases c17 : x9_1 < (x8_1.length : Int)
       ·rw [if_pos c17] at H;have c17b0 : decide (x9_1 < (x8_1.length : Int)) = true := decide_eq_true c17;(try (have c17b0h := c17b0; rw [hl8_1] at c17b0h))
        clear c17;obtain ⟨bq18, hbq18⟩ : ∃ b_ : Bool, b_ = (rdOf false x8_1 x9_1) := ⟨_, rfl⟩;replace H : (if bq18 = true then (some x7_1) else (if x7_1.length < 17592186044416 then ((field_multiply.f k1 a0_0 a0_1 l0_2 x9_1 a2).bind fun t114 => (field_powers.l0 k1 a2 (x7_1 ++ [x9_1]) (x8_1.set (x9_1 : Int).toNat true) t114 a0_0 a0_1 l0_2)) else (none))) = some r := by rw [← hbq18] at H; exact H
        have Nbq18 := Q9a.mk hbq18;clear hbq18;by_cases c19 : bq18 = true
        ·subst c19;have H1 : (some x7_1) = some r := by rw [if_pos rfl] at H; exact H
         clear H;have H := H1;clear H1;obtain rfl := Option.some.inj H;have p109 : 0 ≤ (x9_1 : Int) := of_decide_eq_true (by first | (with_reducible assumption) | assumption);have q109 : x9_1 < (x8_1.length : Int) := of_decide_eq_true (by first | (with_reducible assumption) | assumption);obtain ⟨ad109, e109, hx109_0⟩ := Kd.at_bool (Kd.R_reads' HO_8.out).2.2 x9_1 p109 q109;(try rw [← Nbq18.out] at hx109_0)
         obtain rfl : (⟨go7, 0, none⟩ : Addr) = ad109 := (by injection e109);(first | simp only [add_plain] at hx109_0 | simp only [add_at] at hx109_0 | simp only [Addr.add, Nat.zero_add] at hx109_0 | skip)
         replace p109 := eq_true p109;replace q109 := eq_true q109;go_wp2
         go_ret
         exact ⟨_, by first | rfl | (simp [*, eN, eS] <;> rfl), rI HO_7.out, bJ HB.out GE101.out⟩
        replace c19 := Bool.eq_false_iff.mpr c19;subst c19;have H1 : (if x7_1.length < 17592186044416 then ((field_multiply.f k1 a0_0 a0_1 l0_2 x9_1 a2).bind fun t114 => (field_powers.l0 k1 a2 (x7_1 ++ [x9_1]) (x8_1.set (x9_1 : Int).toNat true) t114 a0_0 a0_1 l0_2)) else (none)) = some r := by rw [if_neg (show ¬ (false = true) by decide)] at H; exact H
        clear H;have H := H1;clear H1;obtain ⟨y110, hy110⟩ : ∃ y_ : List Bool, y_ = (x8_1.set (x9_1 : Int).toNat true) := ⟨_, rfl⟩;replace H : (if x7_1.length < 17592186044416 then ((field_multiply.f k1 a0_0 a0_1 l0_2 x9_1 a2).bind fun t114 => (field_powers.l0 k1 a2 (x7_1 ++ [x9_1]) y110 t114 a0_0 a0_1 l0_2)) else (none)) = some r := by first | (rw [hy110]; with_reducible exact H) | (have H2_ := (Option.bind_some _ _).symm.trans H; rw [hy110]; with_reducible exact H2_) | (have H2_ := (Option.bind_some _ _).symm.trans H; with_reducible exact H2_) | with_reducible exact H | (rw [hy110]; exact H) | exact H
        have Ny110 := Q9a.mk hy110;clear hy110;by_cases c21 : x7_1.length < 17592186044416
        ·rw [if_pos c21] at H;have LMc21 := Q9a.mk c21;clear c21;obtain ⟨y111, hy111⟩ : ∃ y_ : List Int, y_ = (x7_1 ++ [x9_1]) := ⟨_, rfl⟩;replace H : ((field_multiply.f k1 a0_0 a0_1 l0_2 x9_1 a2).bind fun t114 => (field_powers.l0 k1 a2 y111 y110 t114 a0_0 a0_1 l0_2)) = some r := by first | (rw [hy111]; with_reducible exact H) | (have H2_ := (Option.bind_some _ _).symm.trans H; rw [hy111]; with_reducible exact H2_) | (have H2_ := (Option.bind_some _ _).symm.trans H; with_reducible exact H2_) | with_reducible exact H | (rw [hy111]; exact H) | exact H
         have Ny111 := Q9a.mk hy111;clear hy111;replace H := Option.bind_eq_some_iff.mp H;obtain ⟨t114, A220, H⟩ := H;replace H : (field_powers.l0 k1 a2 y111 y110 t114 a0_0 a0_1 l0_2) = some r := H;have A22 := Q9a.mk A220;clear A220;have H' := Q9a.mk H;clear H;have p109 : 0 ≤ (x9_1 : Int) := of_decide_eq_true (by first | (with_reducible assumption) | assumption);have q109 : x9_1 < (x8_1.length : Int) := of_decide_eq_true (by first | (with_reducible assumption) | assumption);obtain ⟨ad109, e109, hx109_0⟩ := Kd.at_bool (Kd.R_reads' HO_8.out).2.2 x9_1 p109 q109;(try rw [← Nbq18.out] at hx109_0)
         obtain rfl : (⟨go7, 0, none⟩ : Addr) = ad109 := (by injection e109);(first | simp only [add_plain] at hx109_0 | simp only [add_at] at hx109_0 | simp only [Addr.add, Nat.zero_add] at hx109_0 | skip)
         replace p109 := eq_true p109;replace q109 := eq_true q109;have p20 : 0 ≤ (x9_1 : Int) := of_decide_eq_true (by first | (with_reducible assumption) | assumption);have q20 : (x9_1 : Int) < ((x8_1.length : Int) : Int) := of_decide_eq_true (by first | (with_reducible assumption) | assumption);obtain ⟨hx20_0, hf20_0⟩ := Kd.R_celln false HO_8.out (x9_1 : Int) p20 q20;replace p20 := eq_true p20;replace q20 := eq_true q20;have HP23 := Kd.R_putg HO_8.out (x9_1 : Int) true;go_wp2_with (first | ((with_reducible refine gate_store (t := 4) (p := 31) rfl ?_); refine store_event (t := 4) (p := 31) (v := ?vo_w24) (w1 := (wr.setCell ⟨go7, (x9_1 : Int).toNat, none⟩ (.bool true))) ?hg ?ho ?hn ?hr ?_; (case ho => rfl); (case hg => rfl); (case hn => rfl); (case hr => first | (go_simp; done) | (go_simp; rfl)); intro w24 hw; have hg : wr.grownBy w24 (some go7) := (by rw [hw]; exact HP23.2); have hp_ : Kd.R Kd.bool 4 w24 w.heap.size (fun _ => True) (.slice (some ⟨go7, 0, none⟩) x8_1.length co7) y110 := (by rw [hw, Ny110.out]; exact HP23.1); clear HP23; have n0_ := Q9a.mk (Kd.R_over' (v := (.slice (some ⟨go7, 0, none⟩) x8_1.length co7)) (rI HO_7.out) (Kd.R_typed HO_8.out) (by decide) hg); have n1_ := Q9a.mk (hp_); have n2_ := Q9a.mk (blk_grown (g := gb101) (o := .cells #[.int .i64 a0_0, .int .i64 a0_1, .slice A0_2 l0_2.length c0_2] 24 (0, 0)) (kI BK101.out) hg (Kd.R_ne HO_8.out BK101.out (by decide))); have n3_ := Q9a.mk ((by rw [hw]; exact bS (HB.out) GB7.out : Below w.heap.size w w24)); clear HO_7; clear HO_8; clear BK101; clear HB; have HO_7 := n0_; have HO_8 := n1_; have BK101 := n2_; have HB := n3_; clear n0_ n1_ n2_ n3_; clear hg hw hp_) | ((with_reducible refine gate_builtin (b := .append) (xs := #[.tmp 32, .tmp 34]) rfl ?_); at_builtin; refine Kd.R_append (Kd.int .i64) (w0 := w) w.heap.size rfl (.tmp 32) (.tmp 34) 22 3 (.int .i64 0) 8 rfl Try.underlying22 info3 rfl (by decide) (by omega) u7 x7_1 x9_1 [.int .i64 x9_1] (fun _ => True) (fun _ => False) rfl rfl ?aP (fun _ hk => hk.elim) ?aF ?aO ?aB ?aS ?aL ?_; (case aP => exact rfl); (case aB => exact (bJ HB.out GE101.out)); (case aF => exact (fun _ _ => trivial)); (case aO => exact (rI HO_7.out)); (case aS => exact (bZ (bJ HB.out GE101.out))); (case aL => have := LMc21.out; omega); intro v112 w25 ho hb hg hat; rw [← Ny111.out] at ho; have n0_ := Q9a.mk (Kd.R_over' (rI HO_8.out) (Kd.R_typed (rI HO_7.out)) (by decide) hg); have n1_ := Q9a.mk (blk_grown (g := gb101) (o := .cells #[.int .i64 a0_0, .int .i64 a0_1, .slice A0_2 l0_2.length c0_2] 24 (0, 0)) (kI BK101.out) hg (Kd.R_ne HO_7.out BK101.out (by decide))); have n2_ := Q9a.mk (hb); have n3_ := Q9a.mk (ho); clear HO_8; clear BK101; clear HB; clear HO_7; have HO_8 := n0_; have BK101 := n1_; have HB := n2_; have HO113 := n3_; clear n0_ n1_ n2_ n3_; clear ho hb hg hat; have hcz26_0 : w25.cell? ⟨gb101, 0, none⟩ = some (.int .i64 a0_0) := (kC BK101.out 0).trans rfl; have hcz26_1 : w25.cell? ⟨gb101, 1, none⟩ = some (.int .i64 a0_1) := (kC BK101.out 1).trans rfl; have hcz26_2 : w25.cell? ⟨gb101, 2, none⟩ = some (.slice A0_2 l0_2.length c0_2) := (kC BK101.out 2).trans rfl; have hfz26_0 := kF BK101.out 0; have hfz26_1 := kF BK101.out 1; have hfz26_2 := kF BK101.out 2) | ((with_reducible refine gC (f := 92) rfl ?_); refine gL (some 28) rfl rfl Try.func92 (by kernel_rfl) rfl #[.agg #[.int .i64 a0_0, .int .i64 a0_1, .slice A0_2 l0_2.length c0_2], .int .i64 x9_1, .int .i64 a2] rfl (by (try simp only [sm1, sm2, sm3]); first | done | rfl | (simp only [sm4, sm5]; rfl)) ?_; (with_reducible refine (field_multiply.calls k1 a0_0 a0_1 _ _ l0_2 x9_1 a2 t114 _ ?side1 ?side2 A22.out).mono ?_); (case side1 => exact cI HR0_2.out HB.out); (case side2 => exact HC0_2.out); rintro e w27 ⟨rfl, hb⟩; refine ⟨_, rfl, ?_⟩; have n0_ := Q9a.mk (Kd.R_below (rI HO_8.out) hb); have n1_ := Q9a.mk (Kd.R_below (rI HO113.out) hb); have n2_ := Q9a.mk (kB (g := gb101) (o := .cells #[.int .i64 a0_0, .int .i64 a0_1, .slice A0_2 l0_2.length c0_2] 24 (0, 0)) (kI BK101.out) hb); have n3_ := Q9a.mk (bP (bJ HB.out GE101.out) hb); clear HO_8; clear HO113; clear BK101; clear HB; have HO_8 := n0_; have HO113 := n1_; have BK101 := n2_; have HB := n3_; clear n0_ n1_ n2_ n3_; (try clear hb); (try clear hb2); (try clear hk); (try clear hi)))
         (try simp only [← hl8_1])
         go_roundg k1
         case measure => have := HK1.out; omega
         case rel => exact ⟨(y111), (y110), (t114), (by first | rfl | (simp; done) | (simp [*]; done)), H', ⟨by have := HK1.out; omega⟩, ⟨by (try simp only [hl8_1]); (with_reducible repeat (first | apply Kd.rA | apply Kd.rN | apply Kd.rD)); exact HO113.out⟩, ⟨by (try simp only [hl8_1]); (with_reducible repeat (first | apply Kd.rA | apply Kd.rN | apply Kd.rD)); exact HO_8.out⟩, ⟨by (try simp only [hl8_1]); (with_reducible repeat (first | refine kN ?_ _ | refine kD ?_ | refine kA ?_ _)); exact BK101.out⟩, ⟨bJ HB.out GE101.out⟩⟩
        rw [if_neg c21] at H;exact absurd H (by simp)
       rw [if_neg c17] at H;exact absurd H (by simp)
      rw [if_neg c16] at H;exact absurd H (by simp)
   rw [if_neg c6] at H;exact absurd H (by simp)
  rw [if_neg c5] at H;exact absurd H (by simp)
 rw [if_neg c4] at H;exact absurd H (by simp)
def field_generator.l0 : Nat → Int → Int → Int → Int → List Int → Option (List Int)
 | 0, _, _, _, _, _ => none
 | k + 1, x1, x5, x116000, x116001, x116002 => if x5 < x1 then ((field_powers.f k x116000 x116001 x116002 x1 x5).bind fun t116 => (if (t116.length : Int) = (wrap64 (x1 - 1)) then (if 0 ≤ (wrap64 (x1 - 2)) then (if (wrap64 (x1 - 2)) < (t116.length : Int) then ((field_multiply.f k x116000 x116001 x116002 (rd t116 (wrap64 (x1 - 2))) x5).bind fun t120 => (if t120 = 1 then (some t116) else (field_generator.l0 k x1 (wrap64 (x5 + 1)) x116000 x116001 x116002))) else (none)) else (none)) else (field_generator.l0 k x1 (wrap64 (x5 + 1)) x116000 x116001 x116002))) else (some ([] : List Int))
def field_generator.f (k : Nat) (a0_0 : Int) (a0_1 : Int) (l0_2 : List Int) (a1 : Int) : Option (List Int) := field_generator.l0 k a1 1 a0_0 a0_1 l0_2
def field_generator.T5 : Bool × List (List Nat × List Nat) := (true, [([], []), ([0], [0]), ([], []), ([2], [2]), ([1, 3], [1, 3]), ([4], [4]), ([5], [5]), ([5], [5]), ([5], [5]), ([8, 5], [5, 8]), ([7, 9, 5], [5, 7, 9]), ([10, 5], [5, 10]), ([5], [5]), ([6, 11, 12, 5, 5], [5, 6, 11, 12]), ([13, 5], [5, 13]), ([5, 14], [5, 14])])
def field_generator.B5 : List Nat := [0, 1, 0, 4, 15, 31, 63, 63, 63, 319, 959, 1983, 63, 8191, 16383, 32767]
theorem field_generator.tab5 : rtab .any (opsOf Try.f67 5) = field_generator.T5 := by kernel_rfl
theorem field_generator.bits5 : waitsOk field_generator.T5.2 field_generator.B5 = true := by kernel_rfl
def tower_prime.f (a0 : GFv) : Option (Int × Int) := (field_GF_Field.f a0).bind fun bt125 => (some (bt125.1, bt125.2.1))
theorem tower_prime.calls (b_a0 : Nat) (a0 : GFv) (r1 : Int) (r2 : Int) (w : World) (hg0 : GFok w b_a0 a0) (h : tower_prime.f a0 = some (r1, r2)) :
  Calls Try.prog 54 #[.pointer (some ⟨b_a0, 0, none⟩)] w fun e w' => e = .returned (.tuple #[.int .i64 r1, .int .i64 r2]) ∧ Below w.heap.size w w' := by
 have hu24 := Try.underlying24;have HG_a0 := Q9a.mk hg0;clear hg0;have HB := Q9a.mk (Below.refl w.heap.size w);have H : ((field_GF_Field.f a0).bind fun bt125 => (some (bt125.1, bt125.2.1))) = some (r1, r2) := h;clear h;replace H := Option.bind_eq_some_iff.mp H;obtain ⟨⟨t125, t126, t127⟩, A20, H⟩ := H;replace H : (some (t125, t126)) = some (r1, r2) := H;have A2 := Q9a.mk A20;clear A20;simp only [Option.some.injEq, Prod.mk.injEq] at H;obtain ⟨rfl, rfl⟩ := H;go_enter Try.func54, Try.ntmps54
 go_wp2_with (first | (go_at_call 83; (with_reducible refine (field_GF_Field.calls b_a0 a0 t125 t126 t127 _ ?side1 A2.out).mono ?_); (case side1 => exact GFok.belowT HG_a0.out (bI HB.out)); rintro e w3 ⟨v128, rfl, ho0, hb⟩; have n0_ := Q9a.mk (Kd.rL ho0 (bZ (bI HB.out))); have n1_ := Q9a.mk (bP (bI HB.out) hb); clear HB; have HO129 := n0_; have HB := n1_; clear n0_ n1_; (try clear ho0)) | ((with_reducible refine gD (N := 4) rfl ?_); refine bE ?hg (N := 4) ?hd (cs := #[.int .i64 0, .int .i64 0, .slice none 0 0]) (t := 24) ?hr ?_; (case hd => rfl); (case hg => rfl); (case hr => first | (go_simp; done) | (go_simp; rfl)); intro gb130 hg w4 hbox hb; have n0_ := Q9a.mk (Kd.R_below (rI HO129.out) hb); have n1_ := Q9a.mk (bP (bI HB.out) hb); have n2_ := Q9a.mk (hbox); have n3_ := Q9a.mk ((by rw [hg]; exact (bZ (bI HB.out)) : w.heap.size ≤ gb130)); have n4_ := n3_; clear HO129; clear HB; have HO129 := n0_; have HB := n1_; have BK130 := n2_; have GW130 := n3_; have GE130 := n4_; clear n0_ n1_ n2_ n3_ n4_; clear hb hbox hg; have hcz5_0 : w4.cell? ⟨gb130, 0, none⟩ = some (.int .i64 0) := (kC BK130.out 0).trans rfl; have hcz5_1 : w4.cell? ⟨gb130, 1, none⟩ = some (.int .i64 0) := (kC BK130.out 1).trans rfl; have hcz5_2 : w4.cell? ⟨gb130, 2, none⟩ = some (.slice none 0 0) := (kC BK130.out 2).trans rfl; have hfz5_0 := kF BK130.out 0; have hfz5_1 := kF BK130.out 1; have hfz5_2 := kF BK130.out 2; obtain ⟨Ao6, co6, eo6⟩ := Kd.R_slice HO129.out; subst eo6))
 repeat (go_quiet (first | (go_at_call 83; (with_reducible refine (field_GF_Field.calls b_a0 a0 t125 t126 t127 _ ?side1 A2.out).mono ?_); (case side1 => exact GFok.belowT HG_a0.out (bI HB.out)); rintro e w3 ⟨v128, rfl, ho0, hb⟩; have n0_ := Q9a.mk (Kd.rL ho0 (bZ (bI HB.out))); have n1_ := Q9a.mk (bP (bI HB.out) hb); clear HB; have HO129 := n0_; have HB := n1_; clear n0_ n1_; (try clear ho0)) | ((with_reducible refine gD (N := 4) rfl ?_); refine bE ?hg (N := 4) ?hd (cs := #[.int .i64 0, .int .i64 0, .slice none 0 0]) (t := 24) ?hr ?_; (case hd => rfl); (case hg => rfl); (case hr => first | (go_simp; done) | (go_simp; rfl)); intro gb130 hg w4 hbox hb; have n0_ := Q9a.mk (Kd.R_below (rI HO129.out) hb); have n1_ := Q9a.mk (bP (bI HB.out) hb); have n2_ := Q9a.mk (hbox); have n3_ := Q9a.mk ((by rw [hg]; exact (bZ (bI HB.out)) : w.heap.size ≤ gb130)); have n4_ := n3_; clear HO129; clear HB; have HO129 := n0_; have HB := n1_; have BK130 := n2_; have GW130 := n3_; have GE130 := n4_; clear n0_ n1_ n2_ n3_ n4_; clear hb hbox hg; have hcz5_0 : w4.cell? ⟨gb130, 0, none⟩ = some (.int .i64 0) := (kC BK130.out 0).trans rfl; have hcz5_1 : w4.cell? ⟨gb130, 1, none⟩ = some (.int .i64 0) := (kC BK130.out 1).trans rfl; have hcz5_2 : w4.cell? ⟨gb130, 2, none⟩ = some (.slice none 0 0) := (kC BK130.out 2).trans rfl; have hfz5_0 := kF BK130.out 0; have hfz5_1 := kF BK130.out 1; have hfz5_2 := kF BK130.out 2; obtain ⟨Ao6, co6, eo6⟩ := Kd.R_slice HO129.out; subst eo6)); try go_wp2_with (first | (go_at_call 83; (with_reducible refine (field_GF_Field.calls b_a0 a0 t125 t126 t127 _ ?side1 A2.out).mono ?_); (case side1 => exact GFok.belowT HG_a0.out (bI HB.out)); rintro e w3 ⟨v128, rfl, ho0, hb⟩; have n0_ := Q9a.mk (Kd.rL ho0 (bZ (bI HB.out))); have n1_ := Q9a.mk (bP (bI HB.out) hb); clear HB; have HO129 := n0_; have HB := n1_; clear n0_ n1_; (try clear ho0)) | ((with_reducible refine gD (N := 4) rfl ?_); refine bE ?hg (N := 4) ?hd (cs := #[.int .i64 0, .int .i64 0, .slice none 0 0]) (t := 24) ?hr ?_; (case hd => rfl); (case hg => rfl); (case hr => first | (go_simp; done) | (go_simp; rfl)); intro gb130 hg w4 hbox hb; have n0_ := Q9a.mk (Kd.R_below (rI HO129.out) hb); have n1_ := Q9a.mk (bP (bI HB.out) hb); have n2_ := Q9a.mk (hbox); have n3_ := Q9a.mk ((by rw [hg]; exact (bZ (bI HB.out)) : w.heap.size ≤ gb130)); have n4_ := n3_; clear HO129; clear HB; have HO129 := n0_; have HB := n1_; have BK130 := n2_; have GW130 := n3_; have GE130 := n4_; clear n0_ n1_ n2_ n3_ n4_; clear hb hbox hg; have hcz5_0 : w4.cell? ⟨gb130, 0, none⟩ = some (.int .i64 0) := (kC BK130.out 0).trans rfl; have hcz5_1 : w4.cell? ⟨gb130, 1, none⟩ = some (.int .i64 0) := (kC BK130.out 1).trans rfl; have hcz5_2 : w4.cell? ⟨gb130, 2, none⟩ = some (.slice none 0 0) := (kC BK130.out 2).trans rfl; have hfz5_0 := kF BK130.out 0; have hfz5_1 := kF BK130.out 1; have hfz5_2 := kF BK130.out 2; obtain ⟨Ao6, co6, eo6⟩ := Kd.R_slice HO129.out; subst eo6)))
 go_ret2
 exact ⟨by first | rfl | (simp [*, eN, eS] <;> rfl), bJ HB.out GE130.out⟩
def tower_Frobenius.l0 : Nat → GFv → Int → Int → Int → Int → Option (Int)
 | 0, _, _, _, _, _ => none
 | k + 1, x0, x1, x7, x20, x21 => if x21 < x20 then ((field_GF_Pow.f x0 x1 x7).bind fun bt134 => (tower_Frobenius.l0 k x0 bt134.1 x7 x20 (wrap64 (x21 + 1)))) else ((field_GF_Add.f x0 x1 0).bind fun t136 => (some t136))
def tower_Frobenius.f (k : Nat) (a0 : GFv) (a1 : Int) (a2 : Int) : Option (Int) := (tower_prime.f a0).bind fun bt132 => (if bt132.2 = 0 then (none) else (tower_Frobenius.l0 k a0 a1 bt132.1 (Int.tmod (wrap64 ((Int.tmod a2 bt132.2) + bt132.2)) bt132.2) 0))
theorem tower_Frobenius.calls (k : Nat) (b_a0 : Nat) (a0 : GFv) (a1 : Int) (a2 : Int) (r : Int) (w : World) (hg0 : GFok w b_a0 a0) (h : tower_Frobenius.f k a0 a1 a2 = some r) :
  Calls Try.prog 63 #[.pointer (some ⟨b_a0, 0, none⟩), .int .i64 a1, .int .i64 a2] w fun e w' => e = .returned (.int .i64 r) ∧ Below w.heap.size w w' := by
 have HG_a0 := Q9a.mk hg0;clear hg0;have HB := Q9a.mk (Below.refl w.heap.size w);have H : ((tower_prime.f a0).bind fun bt132 => (if bt132.2 = 0 then (none) else (tower_Frobenius.l0 k a0 a1 bt132.1 (Int.tmod (wrap64 ((Int.tmod a2 bt132.2) + bt132.2)) bt132.2) 0))) = some r := h;clear h;replace H := Option.bind_eq_some_iff.mp H;obtain ⟨⟨t132, t133⟩, A40, H⟩ := H;replace H : (if t133 = 0 then (none) else (tower_Frobenius.l0 k a0 a1 t132 (Int.tmod (wrap64 ((Int.tmod a2 t133) + t133)) t133) 0)) = some r := H;have A4 := Q9a.mk A40;clear A40;by_cases c5 : t133 = 0
 ·rw [if_pos c5] at H;exact absurd H (by simp)
 rw [if_neg c5] at H;have c5b0 : (t133 == 0) = false := beq_eq_false_iff_ne.mpr c5;have c5b1 : (t133 != 0) = true := bne_iff_ne.mpr c5;have H' := Q9a.mk H;clear H;go_enter Try.func63, Try.ntmps63
 go_wp2_with (first | ((with_reducible refine gC (f := 54) rfl ?_); refine gL (some 11) rfl rfl Try.func54 (by kernel_rfl) rfl #[.pointer (some ⟨b_a0, 0, none⟩)] rfl (by (try simp only [sm1, sm2, sm3]); first | done | rfl | (simp only [sm4, sm5]; rfl)) ?_; (with_reducible refine (tower_prime.calls b_a0 a0 t132 t133 _ ?side1 A4.out).mono ?_); (case side1 => exact GFok.belowT HG_a0.out (bI HB.out)); rintro e w6 ⟨rfl, hb⟩; refine ⟨_, rfl, ?_⟩; have n0_ := Q9a.mk (bP (bI HB.out) hb); clear HB; have HB := n0_; clear n0_; (try clear hb); (try clear hb2); (try clear hk); (try clear hi)))
 go_loopg [1, 21] k (fun kq v1 v21 w' => ∃ (x1_1 : Int) (x21_1 : Int), v1 = .int .i64 x1_1 ∧ v21 = .int .i64 x21_1 ∧ Q9a (tower_Frobenius.l0 kq a0 x1_1 t132 (Int.tmod (wrap64 ((Int.tmod a2 t133) + t133)) t133) x21_1 = some r) ∧ Q9a (kq ≤ k) ∧ Q9a (Below w.heap.size w w'))
 case atStart => exact ⟨(a1), (0), (by first | rfl | (simp; done) | (simp [*]; done)), (by first | rfl | (simp; done) | (simp [*]; done)), H', ⟨Nat.le_refl _⟩, ⟨bI HB.out⟩⟩
 case round =>
  clear H';try clear p2
  try clear c5
  try clear c5b0
  try clear c5b1
  try clear c6
  try clear p6
  obtain ⟨x1_1, x21_1, rfl, rfl, HA, HK1, HB⟩ := hrel
  cases gk with
  | zero => exact absurd HA.out (by simp [tower_Frobenius.l0])
  | succ k1 =>
   have H := HA.out;clear HA;simp only [tower_Frobenius.l0] at H;by_cases c7 : x21_1 < (Int.tmod (wrap64 ((Int.tmod a2 t133) + t133)) t133)
   ·rw [if_pos c7] at H;have c7b0 : decide (x21_1 < (Int.tmod (wrap64 ((Int.tmod a2 t133) + t133)) t133)) = true := decide_eq_true c7;clear c7;replace H := Option.bind_eq_some_iff.mp H;obtain ⟨⟨t134, t135⟩, A80, H⟩ := H;replace H : (tower_Frobenius.l0 k1 a0 t134 t132 (Int.tmod (wrap64 ((Int.tmod a2 t133) + t133)) t133) (wrap64 (x21_1 + 1))) = some r := H;have A8 := Q9a.mk A80;clear A80;have H' := Q9a.mk H;clear H;go_wp2_with (first | ((with_reducible refine gC (f := 89) rfl ?_); refine gL (some 27) rfl rfl Try.func89 (by kernel_rfl) rfl #[.pointer (some ⟨b_a0, 0, none⟩), .int .i64 x1_1, .int .i64 t132] rfl (by (try simp only [sm1, sm2, sm3]); first | done | rfl | (simp only [sm4, sm5]; rfl)) ?_; (with_reducible refine (field_GF_Pow.calls b_a0 a0 x1_1 t132 t134 t135 _ ?side1 A8.out).mono ?_); (case side1 => exact GFok.belowT HG_a0.out (bI HB.out)); rintro e w9 ⟨rfl, hb⟩; refine ⟨_, rfl, ?_⟩; have n0_ := Q9a.mk (bP (bI HB.out) hb); clear HB; have HB := n0_; clear n0_; (try clear hb); (try clear hb2); (try clear hk); (try clear hi)))
    go_roundg k1
    case measure => have := HK1.out; omega
    case rel => exact ⟨(t134), (wrap64 (x21_1 + 1)), (by first | rfl | (simp; done) | (simp [*]; done)), (by first | rfl | (simp; done) | (simp [*]; done)), H', ⟨by have := HK1.out; omega⟩, ⟨bI HB.out⟩⟩
   rw [if_neg c7] at H;have c7b0 : decide (x21_1 < (Int.tmod (wrap64 ((Int.tmod a2 t133) + t133)) t133)) = false := decide_eq_false c7;clear c7;replace H := Option.bind_eq_some_iff.mp H;obtain ⟨t136, A100, H⟩ := H;replace H : (some t136) = some r := H;have A10 := Q9a.mk A100;clear A100;obtain rfl := Option.some.inj H;go_wp2_with (first | ((with_reducible refine gC (f := 64) rfl ?_); refine gL (some 33) rfl rfl Try.func64 (by kernel_rfl) rfl #[.pointer (some ⟨b_a0, 0, none⟩), .int .i64 x1_1, .int .i64 0] rfl (by (try simp only [sm1, sm2, sm3]); first | done | rfl | (simp only [sm4, sm5]; rfl)) ?_; (with_reducible refine (field_GF_Add.calls b_a0 a0 x1_1 0 t136 _ ?side1 A10.out).mono ?_); (case side1 => exact GFok.belowT HG_a0.out (bI HB.out)); rintro e w11 ⟨rfl, hb⟩; refine ⟨_, rfl, ?_⟩; have n0_ := Q9a.mk (bP (bI HB.out) hb); clear HB; have HB := n0_; clear n0_; (try clear hb); (try clear hb2); (try clear hk); (try clear hi)))
   go_ret
   exact ⟨by first | rfl | (simp [*, eN, eS] <;> rfl), bI HB.out⟩
end
end Go.Proofs.Ytlbddjojhcgpiaa.P
end
-- Pb2
section
namespace Go.Proofs.Ytlbddjojhcgpiaa.P
noncomputable section
open Go.RowKit Go.Proofs.Ytlbddjojhcgpiaa.Hand Go.Proofs.YtlbddjojhcgpiaaW.PrintWords Go.Proofs.YtlbddjojhcgpiaaW.PrintLast Go.Proofs.YtlbddjojhcgpiaaW.PrintMore
set_option linter.unusedVariables false
set_option linter.unusedSimpArgs false
def tower_Degree.l0 : Nat → GFv → Int → Int → Option (Int)
 | 0, _, _, _ => none
 | k + 1, x0, x1, x5 => (tower_Frobenius.f k x0 x1 x5).bind fun t137 => ((field_GF_Add.f x0 x1 0).bind fun t138 => (if t137 = t138 then (some x5) else (tower_Degree.l0 k x0 x1 (wrap64 (x5 + 1)))))
def tower_Degree.f (k : Nat) (a0 : GFv) (a1 : Int) : Option (Int) := tower_Degree.l0 k a0 a1 1
theorem tower_Degree.calls (k : Nat) (b_a0 : Nat) (a0 : GFv) (a1 : Int) (r : Int) (w : World) (hg0 : GFok w b_a0 a0) (h : tower_Degree.f k a0 a1 = some r) :
  Calls Try.prog 37 #[.pointer (some ⟨b_a0, 0, none⟩), .int .i64 a1] w fun e w' => e = .returned (.int .i64 r) ∧ Below w.heap.size w w' := by
 have HG_a0 := Q9a.mk hg0;clear hg0;have HB := Q9a.mk (Below.refl w.heap.size w);have H : (tower_Degree.l0 k a0 a1 1) = some r := h;clear h;have H' := Q9a.mk H;clear H;go_enter Try.func37, Try.ntmps37
 go_wp2
 go_loopg [5] k (fun kq v5 w' => ∃ (x5_1 : Int), v5 = .int .i64 x5_1 ∧ Q9a (tower_Degree.l0 kq a0 a1 x5_1 = some r) ∧ Q9a (kq ≤ k) ∧ Q9a (Below w.heap.size w w'))
 case atStart => exact ⟨(1), (by first | rfl | (simp; done) | (simp [*]; done)), H', ⟨Nat.le_refl _⟩, ⟨bI HB.out⟩⟩
 case round =>
  clear H';try clear p2
  obtain ⟨x5_1, rfl, HA, HK1, HB⟩ := hrel
  cases gk with
  | zero => exact absurd HA.out (by simp [tower_Degree.l0])
  | succ k1 =>
   have H := HA.out;clear HA;simp only [tower_Degree.l0] at H;replace H := Option.bind_eq_some_iff.mp H;obtain ⟨t137, A30, H⟩ := H;replace H : ((field_GF_Add.f a0 a1 0).bind fun t138 => (if t137 = t138 then (some x5_1) else (tower_Degree.l0 k1 a0 a1 (wrap64 (x5_1 + 1))))) = some r := H;have A3 := Q9a.mk A30;clear A30;replace H := Option.bind_eq_some_iff.mp H;obtain ⟨t138, A40, H⟩ := H;replace H : (if t137 = t138 then (some x5_1) else (tower_Degree.l0 k1 a0 a1 (wrap64 (x5_1 + 1)))) = some r := H;have A4 := Q9a.mk A40;clear A40;by_cases c5 : t137 = t138
   ·rw [if_pos c5] at H;have c5b0 : (t137 == t138) = true := beq_iff_eq.mpr c5;have c5b1 : (t137 != t138) = false := bne_eq_false_iff_eq.mpr c5;clear c5;obtain rfl := Option.some.inj H;go_wp2_with (first | ((with_reducible refine gC (f := 63) rfl ?_); refine gL (some 9) rfl rfl Try.func63 (by kernel_rfl) rfl #[.pointer (some ⟨b_a0, 0, none⟩), .int .i64 a1, .int .i64 x5_1] rfl (by (try simp only [sm1, sm2, sm3]); first | done | rfl | (simp only [sm4, sm5]; rfl)) ?_; (with_reducible refine (tower_Frobenius.calls k1 b_a0 a0 a1 x5_1 t137 _ ?side1 A3.out).mono ?_); (case side1 => exact GFok.belowT HG_a0.out (bI HB.out)); rintro e w6 ⟨rfl, hb⟩; refine ⟨_, rfl, ?_⟩; have n0_ := Q9a.mk (bP (bI HB.out) hb); clear HB; have HB := n0_; clear n0_; (try clear hb); (try clear hb2); (try clear hk); (try clear hi)) | ((with_reducible refine gC (f := 64) rfl ?_); refine gL (some 12) rfl rfl Try.func64 (by kernel_rfl) rfl #[.pointer (some ⟨b_a0, 0, none⟩), .int .i64 a1, .int .i64 0] rfl (by (try simp only [sm1, sm2, sm3]); first | done | rfl | (simp only [sm4, sm5]; rfl)) ?_; (with_reducible refine (field_GF_Add.calls b_a0 a0 a1 0 t138 _ ?side1 A4.out).mono ?_); (case side1 => exact GFok.belowT HG_a0.out (bI HB.out)); rintro e w7 ⟨rfl, hb⟩; refine ⟨_, rfl, ?_⟩; have n0_ := Q9a.mk (bP (bI HB.out) hb); clear HB; have HB := n0_; clear n0_; (try clear hb); (try clear hb2); (try clear hk); (try clear hi)))
    go_ret
    exact ⟨by first | rfl | (simp [*, eN, eS] <;> rfl), bI HB.out⟩
   rw [if_neg c5] at H;have c5b0 : (t137 == t138) = false := beq_eq_false_iff_ne.mpr c5;have c5b1 : (t137 != t138) = true := bne_iff_ne.mpr c5;have H' := Q9a.mk H;clear H;go_wp2_with (first | ((with_reducible refine gC (f := 63) rfl ?_); refine gL (some 9) rfl rfl Try.func63 (by kernel_rfl) rfl #[.pointer (some ⟨b_a0, 0, none⟩), .int .i64 a1, .int .i64 x5_1] rfl (by (try simp only [sm1, sm2, sm3]); first | done | rfl | (simp only [sm4, sm5]; rfl)) ?_; (with_reducible refine (tower_Frobenius.calls k1 b_a0 a0 a1 x5_1 t137 _ ?side1 A3.out).mono ?_); (case side1 => exact GFok.belowT HG_a0.out (bI HB.out)); rintro e w8 ⟨rfl, hb⟩; refine ⟨_, rfl, ?_⟩; have n0_ := Q9a.mk (bP (bI HB.out) hb); clear HB; have HB := n0_; clear n0_; (try clear hb); (try clear hb2); (try clear hk); (try clear hi)) | ((with_reducible refine gC (f := 64) rfl ?_); refine gL (some 12) rfl rfl Try.func64 (by kernel_rfl) rfl #[.pointer (some ⟨b_a0, 0, none⟩), .int .i64 a1, .int .i64 0] rfl (by (try simp only [sm1, sm2, sm3]); first | done | rfl | (simp only [sm4, sm5]; rfl)) ?_; (with_reducible refine (field_GF_Add.calls b_a0 a0 a1 0 t138 _ ?side1 A4.out).mono ?_); (case side1 => exact GFok.belowT HG_a0.out (bI HB.out)); rintro e w9 ⟨rfl, hb⟩; refine ⟨_, rfl, ?_⟩; have n0_ := Q9a.mk (bP (bI HB.out) hb); clear HB; have HB := n0_; clear n0_; (try clear hb); (try clear hb2); (try clear hk); (try clear hi)))
   go_roundg k1
   case measure => have := HK1.out; omega
   case rel => exact ⟨(wrap64 (x5_1 + 1)), (by first | rfl | (simp; done) | (simp [*]; done)), H', ⟨by have := HK1.out; omega⟩, ⟨bI HB.out⟩⟩
def tower_isDegree.f (a0 : GFv) (a1 : Int) : Option (Bool) := (tower_prime.f a0).bind fun bt139 => (if a1 ≥ 1 then (if a1 ≤ bt139.2 then (if a1 = 0 then (none) else (some ((Int.tmod bt139.2 a1) == 0))) else (some false)) else (some false))
theorem tower_isDegree.calls (b_a0 : Nat) (a0 : GFv) (a1 : Int) (r : Bool) (w : World) (hg0 : GFok w b_a0 a0) (h : tower_isDegree.f a0 a1 = some r) :
  Calls Try.prog 46 #[.pointer (some ⟨b_a0, 0, none⟩), .int .i64 a1] w fun e w' => e = .returned (.bool r) ∧ Below w.heap.size w w' := by
 have HG_a0 := Q9a.mk hg0;clear hg0;have HB := Q9a.mk (Below.refl w.heap.size w);have H : ((tower_prime.f a0).bind fun bt139 => (if a1 ≥ 1 then (if a1 ≤ bt139.2 then (if a1 = 0 then (none) else (some ((Int.tmod bt139.2 a1) == 0))) else (some false)) else (some false))) = some r := h;clear h;replace H := Option.bind_eq_some_iff.mp H;obtain ⟨⟨t139, t140⟩, A30, H⟩ := H;replace H : (if a1 ≥ 1 then (if a1 ≤ t140 then (if a1 = 0 then (none) else (some ((Int.tmod t140 a1) == 0))) else (some false)) else (some false)) = some r := H;have A3 := Q9a.mk A30;clear A30;by_cases c4 : a1 ≥ 1
 ·rw [if_pos c4] at H;have c4b0 : decide (1 ≤ a1) = true := decide_eq_true c4;clear c4;by_cases c5 : a1 ≤ t140
  ·rw [if_pos c5] at H;have c5b0 : decide (a1 ≤ t140) = true := decide_eq_true c5;clear c5;by_cases c6 : a1 = 0
   ·rw [if_pos c6] at H;exact absurd H (by simp)
   rw [if_neg c6] at H;have c6b0 : (a1 == 0) = false := beq_eq_false_iff_ne.mpr c6;have c6b1 : (a1 != 0) = true := bne_iff_ne.mpr c6;obtain rfl := Option.some.inj H;go_enter Try.func46, Try.ntmps46
   go_wp2_with (first | ((with_reducible refine gC (f := 54) rfl ?_); refine gL (some 9) rfl rfl Try.func54 (by kernel_rfl) rfl #[.pointer (some ⟨b_a0, 0, none⟩)] rfl (by (try simp only [sm1, sm2, sm3]); first | done | rfl | (simp only [sm4, sm5]; rfl)) ?_; (with_reducible refine (tower_prime.calls b_a0 a0 t139 t140 _ ?side1 A3.out).mono ?_); (case side1 => exact GFok.belowT HG_a0.out (bI HB.out)); rintro e w7 ⟨rfl, hb⟩; refine ⟨_, rfl, ?_⟩; have n0_ := Q9a.mk (bP (bI HB.out) hb); clear HB; have HB := n0_; clear n0_; (try clear hb); (try clear hb2); (try clear hk); (try clear hi)))
   go_ret
   exact ⟨by first | rfl | (simp [*, eN, eS] <;> rfl), bI HB.out⟩
  rw [if_neg c5] at H;have c5b0 : decide (a1 ≤ t140) = false := decide_eq_false c5;clear c5;obtain rfl := Option.some.inj H;go_enter Try.func46, Try.ntmps46
  go_wp2_with (first | ((with_reducible refine gC (f := 54) rfl ?_); refine gL (some 9) rfl rfl Try.func54 (by kernel_rfl) rfl #[.pointer (some ⟨b_a0, 0, none⟩)] rfl (by (try simp only [sm1, sm2, sm3]); first | done | rfl | (simp only [sm4, sm5]; rfl)) ?_; (with_reducible refine (tower_prime.calls b_a0 a0 t139 t140 _ ?side1 A3.out).mono ?_); (case side1 => exact GFok.belowT HG_a0.out (bI HB.out)); rintro e w8 ⟨rfl, hb⟩; refine ⟨_, rfl, ?_⟩; have n0_ := Q9a.mk (bP (bI HB.out) hb); clear HB; have HB := n0_; clear n0_; (try clear hb); (try clear hb2); (try clear hk); (try clear hi)))
  go_ret
  exact ⟨by first | rfl | (simp [*, eN, eS] <;> rfl), bI HB.out⟩
 rw [if_neg c4] at H;have c4b0 : decide (1 ≤ a1) = false := decide_eq_false c4;clear c4;obtain rfl := Option.some.inj H;go_enter Try.func46, Try.ntmps46
 go_wp2_with (first | ((with_reducible refine gC (f := 54) rfl ?_); refine gL (some 9) rfl rfl Try.func54 (by kernel_rfl) rfl #[.pointer (some ⟨b_a0, 0, none⟩)] rfl (by (try simp only [sm1, sm2, sm3]); first | done | rfl | (simp only [sm4, sm5]; rfl)) ?_; (with_reducible refine (tower_prime.calls b_a0 a0 t139 t140 _ ?side1 A3.out).mono ?_); (case side1 => exact GFok.belowT HG_a0.out (bI HB.out)); rintro e w9 ⟨rfl, hb⟩; refine ⟨_, rfl, ?_⟩; have n0_ := Q9a.mk (bP (bI HB.out) hb); clear HB; have HB := n0_; clear n0_; (try clear hb); (try clear hb2); (try clear hk); (try clear hi)))
 go_ret
 exact ⟨by first | rfl | (simp [*, eN, eS] <;> rfl), bI HB.out⟩
def tower_each.l0 : Nat → GFv → Int → List Int → Int → Int → Int → Option (List Int)
 | 0, _, _, _, _, _, _ => none
 | k + 1, x0, x2, x9, x10, x25, x26 => if x26 < x25 then (if 0 ≤ x26 then (if x26 < (x9.length : Int) then ((tower_Frobenius.f k x0 x10 x2).bind fun t148 => (tower_each.l0 k x0 x2 (x9.set (x26 : Int).toNat x10) t148 x25 (wrap64 (x26 + 1)))) else (none)) else (none)) else (some x9)
def tower_each.f (k : Nat) (a0 : GFv) (a1 : Int) (a2 : Int) : Option (List Int) := (tower_prime.f a0).bind fun bt141 => (if a2 = 0 then (none) else (if 0 ≤ (wrap64 (Int.tdiv bt141.2 a2)) then (if (wrap64 (Int.tdiv bt141.2 a2) : Int).toNat ≤ 35184372088832 then ((some (List.replicate (wrap64 (Int.tdiv bt141.2 a2) : Int).toNat 0 : List Int)).bind fun y143 => ((field_GF_Add.f a0 a1 0).bind fun t146 => (tower_each.l0 k a0 a2 y143 t146 (y143.length : Int) 0))) else (none)) else (none)))
theorem tower_each.calls (k : Nat) (b_a0 : Nat) (a0 : GFv) (a1 : Int) (a2 : Int) (r : List Int) (w : World) (hg0 : GFok w b_a0 a0) (h : tower_each.f k a0 a1 a2 = some r) :
  Calls Try.prog 48 #[.pointer (some ⟨b_a0, 0, none⟩), .int .i64 a1, .int .i64 a2] w fun e w' => ∃ v0_ : Value, e = .returned (v0_) ∧ Kd.R (Kd.int .i64) 3 w' w.heap.size (fun _ => True) v0_ r ∧ Below w.heap.size w w' := by
 have HG_a0 := Q9a.mk hg0;clear hg0;have HB := Q9a.mk (Below.refl w.heap.size w);have H : ((tower_prime.f a0).bind fun bt141 => (if a2 = 0 then (none) else (if 0 ≤ (wrap64 (Int.tdiv bt141.2 a2)) then (if (wrap64 (Int.tdiv bt141.2 a2) : Int).toNat ≤ 35184372088832 then ((some (List.replicate (wrap64 (Int.tdiv bt141.2 a2) : Int).toNat 0 : List Int)).bind fun y143 => ((field_GF_Add.f a0 a1 0).bind fun t146 => (tower_each.l0 k a0 a2 y143 t146 (y143.length : Int) 0))) else (none)) else (none)))) = some r := h;clear h;replace H := Option.bind_eq_some_iff.mp H;obtain ⟨⟨t141, t142⟩, A40, H⟩ := H;replace H : (if a2 = 0 then (none) else (if 0 ≤ (wrap64 (Int.tdiv t142 a2)) then (if (wrap64 (Int.tdiv t142 a2) : Int).toNat ≤ 35184372088832 then ((some (List.replicate (wrap64 (Int.tdiv t142 a2) : Int).toNat 0 : List Int)).bind fun y143 => ((field_GF_Add.f a0 a1 0).bind fun t146 => (tower_each.l0 k a0 a2 y143 t146 (y143.length : Int) 0))) else (none)) else (none))) = some r := H;have A4 := Q9a.mk A40;clear A40;by_cases c5 : a2 = 0
 ·rw [if_pos c5] at H;exact absurd H (by simp)
 rw [if_neg c5] at H;have c5b0 : (a2 == 0) = false := beq_eq_false_iff_ne.mpr c5;have c5b1 : (a2 != 0) = true := bne_iff_ne.mpr c5;obtain ⟨ji6, hji6⟩ : ∃ j_ : Int, (wrap64 (Int.tdiv t142 a2)) = j_ := ⟨_, rfl⟩;replace H : (if 0 ≤ (ji6) then (if (ji6 : Int).toNat ≤ 35184372088832 then ((some (List.replicate (ji6 : Int).toNat 0 : List Int)).bind fun y143 => ((field_GF_Add.f a0 a1 0).bind fun t146 => (tower_each.l0 k a0 a2 y143 t146 (y143.length : Int) 0))) else (none)) else (none)) = some r := by first | (rw [hji6] at H; exact H) | (simp only [hji6] at H ⊢; exact H)
 (try rw [hji6] at A4)
 have hji6w : (IntKind.i64.wrap (Int.tdiv t142 a2)) = ji6 := (i64_w _).trans hji6;by_cases c7 : 0 ≤ (ji6)
 ·rw [if_pos c7] at H;have c7b0 := eq_true c7;have c7b1 : decide (0 ≤ (ji6)) = true := decide_eq_true c7;clear c7;by_cases c8 : (ji6 : Int).toNat ≤ 35184372088832
  ·rw [if_pos c8] at H;have c8b0 := eq_true c8;have c8b1 : decide ((ji6 : Int).toNat ≤ 35184372088832) = true := decide_eq_true c8;clear c8;obtain ⟨y143, hy143⟩ : ∃ y_ : List Int, y_ = (List.replicate (ji6 : Int).toNat 0) := ⟨_, rfl⟩;replace H : ((field_GF_Add.f a0 a1 0).bind fun t146 => (tower_each.l0 k a0 a2 y143 t146 (y143.length : Int) 0)) = some r := by first | (rw [hy143]; with_reducible exact H) | (have H2_ := (Option.bind_some _ _).symm.trans H; rw [hy143]; with_reducible exact H2_) | (have H2_ := (Option.bind_some _ _).symm.trans H; with_reducible exact H2_) | with_reducible exact H | (rw [hy143]; exact H) | exact H
   have Ny143 := Q9a.mk hy143;clear hy143;replace H := Option.bind_eq_some_iff.mp H;obtain ⟨t146, A90, H⟩ := H;replace H : (tower_each.l0 k a0 a2 y143 t146 (y143.length : Int) 0) = some r := H;have A9 := Q9a.mk A90;clear A90;have H' := Q9a.mk H;clear H;go_enter Try.func48, Try.ntmps48
   go_wp2_with (first | ((with_reducible refine gC (f := 54) rfl ?_); refine gL (some 14) rfl rfl Try.func54 (by kernel_rfl) rfl #[.pointer (some ⟨b_a0, 0, none⟩)] rfl (by (try simp only [sm1, sm2, sm3]); first | done | rfl | (simp only [sm4, sm5]; rfl)) ?_; (with_reducible refine (tower_prime.calls b_a0 a0 t141 t142 _ ?side1 A4.out).mono ?_); (case side1 => exact GFok.belowT HG_a0.out (bI HB.out)); rintro e w10 ⟨rfl, hb⟩; refine ⟨_, rfl, ?_⟩; have n0_ := Q9a.mk (bP (bI HB.out) hb); clear HB; have HB := n0_; clear n0_; (try clear hb); (try clear hb2); (try clear hk); (try clear hi)) | ((with_reducible refine gD (N := 20) rfl ?_); refine Kd.R_make (Kd.int .i64) _ 3 rfl (N := 20) rfl 22 _ _ rfl ji6 rfl rfl Try.underlying22 (.int .i64 0) 8 info3 rfl (by decide) (by omega) 0 (ok := fun _ => True) (okp := fun _ => True) rfl (fun _ hk => hk) trivial (of_decide_eq_true (by first | (with_reducible assumption) | assumption)) (Nat.le_trans (Nat.mul_le_mul_right _ (of_decide_eq_true (by first | (with_reducible assumption) | assumption) : ji6.toNat ≤ 35184372088832)) (by omega)) (Below.refl _ _) (Nat.le_refl _) ?_; intro v144 w11 ho12 hb hg_ hnew_; clear hg_ hnew_; (first | rw [← Ny143.out] at ho12 | (simp only [Int.reduceToNat] at ho12; rw [← Ny143.out] at ho12)); have n0_ := Q9a.mk (Kd.rL ho12 (bZ (bI HB.out))); have n1_ := Q9a.mk (bP (bI HB.out) hb); clear HB; have HO145 := n0_; have HB := n1_; clear n0_ n1_; clear hb ho12) | ((with_reducible refine gC (f := 64) rfl ?_); refine gL (some 23) rfl rfl Try.func64 (by kernel_rfl) rfl #[.pointer (some ⟨b_a0, 0, none⟩), .int .i64 a1, .int .i64 0] rfl (by (try simp only [sm1, sm2, sm3]); first | done | rfl | (simp only [sm4, sm5]; rfl)) ?_; (with_reducible refine (field_GF_Add.calls b_a0 a0 a1 0 t146 _ ?side1 A9.out).mono ?_); (case side1 => exact GFok.belowT HG_a0.out (bI HB.out)); rintro e w13 ⟨rfl, hb⟩; refine ⟨_, rfl, ?_⟩; have n0_ := Q9a.mk (Kd.R_below (rI HO145.out) hb); have n1_ := Q9a.mk (bP (bI HB.out) hb); clear HO145; clear HB; have HO145 := n0_; have HB := n1_; clear n0_ n1_; obtain ⟨Ao14, co14, eo14⟩ := Kd.R_slice HO145.out; subst eo14))
   go_loopg [10, 26] k (fun kq v10 v26 w' => ∃ (x9_1 : List Int) (x10_1 : Int) (x26_1 : Int), v10 = .int .i64 x10_1 ∧ v26 = .int .i64 x26_1 ∧ Q9a (tower_each.l0 kq a0 a2 x9_1 x10_1 (y143.length : Int) x26_1 = some r) ∧ Q9a (kq ≤ k) ∧ Q9a (Kd.R (Kd.int .i64) 3 w' w.heap.size (fun _ => True) (.slice Ao14 y143.length co14) x9_1) ∧ Q9a (Below w.heap.size w w'))
   case atStart => exact ⟨(y143), (t146), (0), (by first | rfl | (simp; done) | (simp [*]; done)), (by first | rfl | (simp; done) | (simp [*]; done)), H', ⟨Nat.le_refl _⟩, ⟨rI HO145.out⟩, ⟨bI HB.out⟩⟩
   case round =>
    clear H';try clear p2
    try clear c4
    try clear c5
    try clear c5b0
    try clear c5b1
    try clear c6
    try clear p6
    try clear c7
    try clear c7b0
    try clear c7b1
    try clear c8
    try clear c8b0
    try clear c8b1
    obtain ⟨x9_1, x10_1, x26_1, rfl, rfl, HA, HK1, HO_9, HB⟩ := hrel;have hl9_1 := (Kd.R_reads' HO_9.out).1;rw [hl9_1] at HO_9;(try simp only [hl9_1])
    cases gk with
    | zero => exact absurd HA.out (by simp [tower_each.l0])
    | succ k1 =>
     have H := HA.out;clear HA;simp only [tower_each.l0] at H;by_cases c15 : x26_1 < (y143.length : Int)
     ·rw [if_pos c15] at H;have c15b0 : decide (x26_1 < (y143.length : Int)) = true := decide_eq_true c15;(try (have c15b0h := c15b0; rw [hl9_1] at c15b0h))
      clear c15;by_cases c16 : 0 ≤ x26_1
      ·rw [if_pos c16] at H;have c16b0 : decide (0 ≤ x26_1) = true := decide_eq_true c16;clear c16;by_cases c17 : x26_1 < (x9_1.length : Int)
       ·rw [if_pos c17] at H;have c17b0 : decide (x26_1 < (x9_1.length : Int)) = true := decide_eq_true c17;(try (have c17b0h := c17b0; rw [hl9_1] at c17b0h))
        clear c17;obtain ⟨y147, hy147⟩ : ∃ y_ : List Int, y_ = (x9_1.set (x26_1 : Int).toNat x10_1) := ⟨_, rfl⟩;replace H : ((tower_Frobenius.f k1 a0 x10_1 a2).bind fun t148 => (tower_each.l0 k1 a0 a2 y147 t148 (y143.length : Int) (wrap64 (x26_1 + 1)))) = some r := by first | (rw [hy147]; with_reducible exact H) | (have H2_ := (Option.bind_some _ _).symm.trans H; rw [hy147]; with_reducible exact H2_) | (have H2_ := (Option.bind_some _ _).symm.trans H; with_reducible exact H2_) | with_reducible exact H | (rw [hy147]; exact H) | exact H
        have Ny147 := Q9a.mk hy147;clear hy147;replace H := Option.bind_eq_some_iff.mp H;obtain ⟨t148, A190, H⟩ := H;replace H : (tower_each.l0 k1 a0 a2 y147 t148 (y143.length : Int) (wrap64 (x26_1 + 1))) = some r := H;have A19 := Q9a.mk A190;clear A190;have H' := Q9a.mk H;clear H;have p18 : 0 ≤ (x26_1 : Int) := of_decide_eq_true (by first | (with_reducible assumption) | assumption);have q18 : (x26_1 : Int) < ((x9_1.length : Int) : Int) := of_decide_eq_true (by first | (with_reducible assumption) | assumption);obtain ⟨go18, co18, eo18, gb18, gl18, cl18, HG18⟩ := Kd.R_form HO_9.out (by omega);(first | cases eo18 | (injection eo18 with ea_ en_ ec_; (first | subst ea_ | (injection ea_ with ea_; subst ea_)); subst ec_; clear en_))
        have GB18 := Q9a.mk gb18;have GG18 := Q9a.mk HG18;clear gb18 gl18 HG18;obtain ⟨hx18_0, hf18_0⟩ := Kd.R_celln 0 HO_9.out (x26_1 : Int) p18 q18;replace p18 := eq_true p18;replace q18 := eq_true q18;have HP20 := Kd.R_putg HO_9.out (x26_1 : Int) x10_1;go_wp2_with (first | ((with_reducible refine gate_store (t := 3) (p := 32) rfl ?_); refine store_event (t := 3) (p := 32) (v := ?vo_w21) (w1 := (wr.setCell ⟨go18, (x26_1 : Int).toNat, none⟩ (.int .i64 x10_1))) ?hg ?ho ?hn ?hr ?_; (case ho => rfl); (case hg => rfl); (case hn => rfl); (case hr => first | (go_simp; done) | (go_simp; rfl)); intro w21 hw; have hg : wr.grownBy w21 (some go18) := (by rw [hw]; exact HP20.2); have hp_ : Kd.R (Kd.int .i64) 3 w21 w.heap.size (fun _ => True) (.slice (some ⟨go18, 0, none⟩) x9_1.length co14) y147 := (by rw [hw, Ny147.out]; exact HP20.1); clear HP20; have n0_ := Q9a.mk (hp_); have n1_ := Q9a.mk ((by rw [hw]; exact bS (HB.out) GB18.out : Below w.heap.size w w21)); clear HO_9; clear HB; have HO_9 := n0_; have HB := n1_; clear n0_ n1_; clear hg hw hp_) | ((with_reducible refine gC (f := 63) rfl ?_); refine gL (some 36) rfl rfl Try.func63 (by kernel_rfl) rfl #[.pointer (some ⟨b_a0, 0, none⟩), .int .i64 x10_1, .int .i64 a2] rfl (by (try simp only [sm1, sm2, sm3]); first | done | rfl | (simp only [sm4, sm5]; rfl)) ?_; (with_reducible refine (tower_Frobenius.calls k1 b_a0 a0 x10_1 a2 t148 _ ?side1 A19.out).mono ?_); (case side1 => exact GFok.belowT HG_a0.out (bI HB.out)); rintro e w22 ⟨rfl, hb⟩; refine ⟨_, rfl, ?_⟩; have n0_ := Q9a.mk (Kd.R_below (rI HO_9.out) hb); have n1_ := Q9a.mk (bP (bI HB.out) hb); clear HO_9; clear HB; have HO_9 := n0_; have HB := n1_; clear n0_ n1_; (try clear hb); (try clear hb2); (try clear hk); (try clear hi)))
        (try simp only [← hl9_1])
        go_roundg k1
        case measure => have := HK1.out; omega
        case rel => exact ⟨(y147), (t148), (wrap64 (x26_1 + 1)), (by first | rfl | (simp; done) | (simp [*]; done)), (by first | rfl | (simp; done) | (simp [*]; done)), H', ⟨by have := HK1.out; omega⟩, ⟨by (try simp only [hl9_1]); (with_reducible repeat (first | apply Kd.rA | apply Kd.rN | apply Kd.rD)); exact HO_9.out⟩, ⟨bI HB.out⟩⟩
       rw [if_neg c17] at H;exact absurd H (by simp)
      rw [if_neg c16] at H;exact absurd H (by simp)
     rw [if_neg c15] at H;have c15b0 : decide (x26_1 < (y143.length : Int)) = false := decide_eq_false c15;(try (have c15b0h := c15b0; rw [hl9_1] at c15b0h))
     clear c15;obtain rfl := Option.some.inj H;go_wp2
     go_ret
     exact ⟨_, by first | rfl | (simp [eN, eS] <;> rfl) | (simp only [← hji6]; first | rfl | (simp [eN, eS] <;> rfl)) | (simp [*, eN, eS] <;> rfl), rI HO_9.out, bI HB.out⟩
  rw [if_neg c8] at H;exact absurd H (by simp)
 rw [if_neg c7] at H;exact absurd H (by simp)
def field_GF_Sum.l0 : Nat → GFv → Int → List Int → Int → Int → Option (Int)
 | 0, _, _, _, _, _ => none
 | k + 1, x0, x5, x8, x9, x10 => if x10 < x9 then (if 0 ≤ x10 then (if x10 < (x8.length : Int) then ((field_GF_Add.f x0 x5 (rd x8 x10)).bind fun t150 => (field_GF_Sum.l0 k x0 t150 x8 x9 (wrap64 (x10 + 1)))) else (none)) else (none)) else (some x5)
def field_GF_Sum.f (k : Nat) (a0 : GFv) (l1 : List Int) : Option (Int) := field_GF_Sum.l0 k a0 0 l1 (l1.length : Int) 0
theorem field_GF_Sum.calls (k : Nat) (b_a0 : Nat) (a0 : GFv) (A1 : Option Addr) (c1 : Nat) (l1 : List Int) (r : Int) (w : World) (hg0 : GFok w b_a0 a0) (hr1 : Kd.C (Kd.int .i64) w A1 l1.length l1) (hc1 : l1.length ≤ c1) (h : field_GF_Sum.f k a0 l1 = some r) :
  Calls Try.prog 62 #[.pointer (some ⟨b_a0, 0, none⟩), .slice A1 l1.length c1] w fun e w' => e = .returned (.int .i64 r) ∧ Below w.heap.size w w' := by
 have HG_a0 := Q9a.mk hg0;clear hg0;have HR1 := Q9a.mk hr1;have HC1 := Q9a.mk hc1;clear hr1 hc1;have HB := Q9a.mk (Below.refl w.heap.size w);have H : (field_GF_Sum.l0 k a0 0 l1 (l1.length : Int) 0) = some r := h;clear h;have H' := Q9a.mk H;clear H;go_enter Try.func62, Try.ntmps62
 go_wp2
 go_loopg [5, 10] k (fun kq v5 v10 w' => ∃ (x5_1 : Int) (x10_1 : Int), v5 = .int .i64 x5_1 ∧ v10 = .int .i64 x10_1 ∧ Q9a (field_GF_Sum.l0 kq a0 x5_1 l1 (l1.length : Int) x10_1 = some r) ∧ Q9a (kq ≤ k) ∧ Q9a (Below w.heap.size w w'))
 case atStart => exact ⟨(0), (0), (by first | rfl | (simp; done) | (simp [*]; done)), (by first | rfl | (simp; done) | (simp [*]; done)), H', ⟨Nat.le_refl _⟩, ⟨bI HB.out⟩⟩
 case round =>
  clear H';try clear c1
  try clear p2
  obtain ⟨x5_1, x10_1, rfl, rfl, HA, HK1, HB⟩ := hrel
  cases gk with
  | zero => exact absurd HA.out (by simp [field_GF_Sum.l0])
  | succ k1 =>
   have H := HA.out;clear HA;simp only [field_GF_Sum.l0] at H;by_cases c3 : x10_1 < (l1.length : Int)
   ·rw [if_pos c3] at H;have c3b0 : decide (x10_1 < (l1.length : Int)) = true := decide_eq_true c3;clear c3;by_cases c4 : 0 ≤ x10_1
    ·rw [if_pos c4] at H;have c4b0 : decide (0 ≤ x10_1) = true := decide_eq_true c4;clear c4;by_cases c5 : x10_1 < (l1.length : Int)
     ·rw [if_pos c5] at H;have c5b0 : decide (x10_1 < (l1.length : Int)) = true := decide_eq_true c5;clear c5;replace H := Option.bind_eq_some_iff.mp H;obtain ⟨t150, A60, H⟩ := H;replace H : (field_GF_Sum.l0 k1 a0 t150 l1 (l1.length : Int) (wrap64 (x10_1 + 1))) = some r := H;have A6 := Q9a.mk A60;clear A60;have H' := Q9a.mk H;clear H;have p149 : 0 ≤ (x10_1 : Int) := of_decide_eq_true (by first | (with_reducible assumption) | assumption);have q149 : x10_1 < (l1.length : Int) := of_decide_eq_true (by first | (with_reducible assumption) | assumption);obtain ⟨ad149, e149, hx149_0⟩ := Kd.at_int HR1.out x10_1 p149 q149
      cases e149
      replace hx149_0 := (HB.out.cell (World.block_lt_of_cell? w _ hx149_0)).trans hx149_0;replace p149 := eq_true p149;replace q149 := eq_true q149;go_wp2_with (first | ((with_reducible refine gC (f := 64) rfl ?_); refine gL (some 17) rfl rfl Try.func64 (by kernel_rfl) rfl #[.pointer (some ⟨b_a0, 0, none⟩), .int .i64 x5_1, .int .i64 (rd l1 x10_1)] rfl (by (try simp only [sm1, sm2, sm3]); first | done | rfl | (simp only [sm4, sm5]; rfl)) ?_; (with_reducible refine (field_GF_Add.calls b_a0 a0 x5_1 (rd l1 x10_1) t150 _ ?side1 A6.out).mono ?_); (case side1 => exact GFok.belowT HG_a0.out (bI HB.out)); rintro e w7 ⟨rfl, hb⟩; refine ⟨_, rfl, ?_⟩; have n0_ := Q9a.mk (bP (bI HB.out) hb); clear HB; have HB := n0_; clear n0_; (try clear hb); (try clear hb2); (try clear hk); (try clear hi)))
      go_roundg k1
      case measure => have := HK1.out; omega
      case rel => exact ⟨(t150), (wrap64 (x10_1 + 1)), (by first | rfl | (simp; done) | (simp [*]; done)), (by first | rfl | (simp; done) | (simp [*]; done)), H', ⟨by have := HK1.out; omega⟩, ⟨bI HB.out⟩⟩
     rw [if_neg c5] at H;exact absurd H (by simp)
    rw [if_neg c4] at H;exact absurd H (by simp)
   rw [if_neg c3] at H;have c3b0 : decide (x10_1 < (l1.length : Int)) = false := decide_eq_false c3;clear c3;obtain rfl := Option.some.inj H;go_wp2
   go_ret
   exact ⟨by first | rfl | (simp [*, eN, eS] <;> rfl), bI HB.out⟩
def tower_Trace.f (k : Nat) (a0 : GFv) (a1 : Int) (a2 : Int) : Option (Int × Int) := (tower_isDegree.f a0 a2).bind fun t151 => (if t151 = true then ((tower_each.f k a0 a1 a2).bind fun t152 => ((field_GF_Sum.f k a0 t152).bind fun t155 => (some (t155, 0)))) else (some (0, 6)))
theorem tower_Trace.calls (k : Nat) (b_a0 : Nat) (a0 : GFv) (a1 : Int) (a2 : Int) (r1 : Int) (r2 : Int) (w : World) (hg0 : GFok w b_a0 a0) (h : tower_Trace.f k a0 a1 a2 = some (r1, r2)) :
  Calls Try.prog 36 #[.pointer (some ⟨b_a0, 0, none⟩), .int .i64 a1, .int .i64 a2] w fun e w' => e = .returned (.tuple #[.int .i64 r1, .int .i64 r2]) ∧ Below w.heap.size w w' := by
 have HG_a0 := Q9a.mk hg0;clear hg0;have HB := Q9a.mk (Below.refl w.heap.size w);have H : ((tower_isDegree.f a0 a2).bind fun t151 => (if t151 = true then ((tower_each.f k a0 a1 a2).bind fun t152 => ((field_GF_Sum.f k a0 t152).bind fun t155 => (some (t155, 0)))) else (some (0, 6)))) = some (r1, r2) := h;clear h;replace H := Option.bind_eq_some_iff.mp H;obtain ⟨t151, A40, H⟩ := H;replace H : (if t151 = true then ((tower_each.f k a0 a1 a2).bind fun t152 => ((field_GF_Sum.f k a0 t152).bind fun t155 => (some (t155, 0)))) else (some (0, 6))) = some (r1, r2) := H;have A4 := Q9a.mk A40;clear A40;by_cases c5 : t151 = true
 ·subst c5;have H1 : ((tower_each.f k a0 a1 a2).bind fun t152 => ((field_GF_Sum.f k a0 t152).bind fun t155 => (some (t155, 0)))) = some (r1, r2) := by rw [if_pos rfl] at H; exact H
  clear H;have H := H1;clear H1;replace H := Option.bind_eq_some_iff.mp H;obtain ⟨t152, A60, H⟩ := H;replace H : ((field_GF_Sum.f k a0 t152).bind fun t155 => (some (t155, 0))) = some (r1, r2) := H;have A6 := Q9a.mk A60;clear A60;replace H := Option.bind_eq_some_iff.mp H;obtain ⟨t155, A70, H⟩ := H;replace H : (some (t155, 0)) = some (r1, r2) := H;have A7 := Q9a.mk A70;clear A70;simp only [Option.some.injEq, Prod.mk.injEq] at H;obtain ⟨rfl, rfl⟩ := H;go_enter Try.func36, Try.ntmps36
  go_wp2_with (first | ((with_reducible refine gC (f := 46) rfl ?_); refine gL (some 10) rfl rfl Try.func46 (by kernel_rfl) rfl #[.pointer (some ⟨b_a0, 0, none⟩), .int .i64 a2] rfl (by (try simp only [sm1, sm2, sm3]); first | done | rfl | (simp only [sm4, sm5]; rfl)) ?_; (with_reducible refine (tower_isDegree.calls b_a0 a0 a2 true _ ?side1 A4.out).mono ?_); (case side1 => exact GFok.belowT HG_a0.out (bI HB.out)); rintro e w8 ⟨rfl, hb⟩; refine ⟨_, rfl, ?_⟩; have n0_ := Q9a.mk (bP (bI HB.out) hb); clear HB; have HB := n0_; clear n0_; (try clear hb); (try clear hb2); (try clear hk); (try clear hi)) | ((with_reducible refine gC (f := 48) rfl ?_); refine gL (some 16) rfl rfl Try.func48 (by kernel_rfl) rfl #[.pointer (some ⟨b_a0, 0, none⟩), .int .i64 a1, .int .i64 a2] rfl (by (try simp only [sm1, sm2, sm3]); first | done | rfl | (simp only [sm4, sm5]; rfl)) ?_; (with_reducible refine (tower_each.calls k b_a0 a0 a1 a2 t152 _ ?side1 A6.out).mono ?_); (case side1 => exact GFok.belowT HG_a0.out (bI HB.out)); rintro e w9 ⟨v153, rfl, ho0, hb⟩; refine ⟨_, rfl, ?_⟩; have n0_ := Q9a.mk (Kd.rL ho0 (bZ (bI HB.out))); have n1_ := Q9a.mk (bP (bI HB.out) hb); clear HB; have HO154 := n0_; have HB := n1_; clear n0_ n1_; (try clear ho0); obtain ⟨Ao10, co10, eo10⟩ := Kd.R_slice HO154.out; subst eo10) | ((with_reducible refine gC (f := 62) rfl ?_); refine gL (some 17) rfl rfl Try.func62 (by kernel_rfl) rfl #[.pointer (some ⟨b_a0, 0, none⟩), .slice Ao10 t152.length co10] rfl (by (try simp only [sm1, sm2, sm3]); first | done | rfl | (simp only [sm4, sm5]; rfl)) ?_; (with_reducible refine (field_GF_Sum.calls k b_a0 a0 _ _ t152 t155 _ ?side1 ?side2 ?side3 A7.out).mono ?_); (case side1 => exact GFok.belowT HG_a0.out (bI HB.out)); (case side2 => repeat (first | exact (Kd.R_reads' HO154.out).2.2 | with_reducible first | refine Kd.cA ?_ _ | refine Kd.cN ?_ _ | refine Kd.cD ?_)); (case side3 => exact (Kd.R_reads' HO154.out).2.1); rintro e w11 ⟨rfl, hb⟩; refine ⟨_, rfl, ?_⟩; have n0_ := Q9a.mk (Kd.R_below (rI HO154.out) hb); have n1_ := Q9a.mk (bP (bI HB.out) hb); clear HO154; clear HB; have HO154 := n0_; have HB := n1_; clear n0_ n1_; (try clear hb); (try clear hb2); (try clear hk); (try clear hi)))
  go_ret2
  exact ⟨by first | rfl | (simp [*, eN, eS] <;> rfl), bI HB.out⟩
 replace c5 := Bool.eq_false_iff.mpr c5;subst c5;have H1 : (some (0, 6)) = some (r1, r2) := by rw [if_neg (show ¬ (false = true) by decide)] at H; exact H
 clear H;have H := H1;clear H1;simp only [Option.some.injEq, Prod.mk.injEq] at H;obtain ⟨rfl, rfl⟩ := H;go_enter Try.func36, Try.ntmps36
 go_wp2_with (first | ((with_reducible refine gC (f := 46) rfl ?_); refine gL (some 10) rfl rfl Try.func46 (by kernel_rfl) rfl #[.pointer (some ⟨b_a0, 0, none⟩), .int .i64 a2] rfl (by (try simp only [sm1, sm2, sm3]); first | done | rfl | (simp only [sm4, sm5]; rfl)) ?_; (with_reducible refine (tower_isDegree.calls b_a0 a0 a2 false _ ?side1 A4.out).mono ?_); (case side1 => exact GFok.belowT HG_a0.out (bI HB.out)); rintro e w12 ⟨rfl, hb⟩; refine ⟨_, rfl, ?_⟩; have n0_ := Q9a.mk (bP (bI HB.out) hb); clear HB; have HB := n0_; clear n0_; (try clear hb); (try clear hb2); (try clear hk); (try clear hi)))
 go_ret2
 exact ⟨by first | rfl | (simp [*, eN, eS] <;> rfl), bI HB.out⟩
def field_GF_Scale.l0 : Nat → GFv → Int → List Int → List Int → Int → Int → Option (List Int)
 | 0, _, _, _, _, _, _ => none
 | k + 1, x0, x1, x7, x13, x14, x15 => if x15 < x14 then (if 0 ≤ x15 then (if x15 < (x13.length : Int) then ((field_GF_Mul.f x0 x1 (rd x13 x15)).bind fun t163 => (if x15 < (x7.length : Int) then (field_GF_Scale.l0 k x0 x1 (x7.set (x15 : Int).toNat t163) x13 x14 (wrap64 (x15 + 1))) else (none))) else (none)) else (none)) else (some x7)
def field_GF_Scale.f (k : Nat) (a0 : GFv) (a1 : Int) (l2 : List Int) : Option (List Int) := if 0 ≤ (l2.length : Int) then (if ((l2.length : Int) : Int).toNat ≤ 35184372088832 then (field_GF_Scale.l0 k a0 a1 (List.replicate ((l2.length : Int) : Int).toNat 0) l2 (l2.length : Int) 0) else (none)) else (none)
theorem field_GF_Scale.calls (k : Nat) (b_a0 : Nat) (a0 : GFv) (a1 : Int) (A2 : Option Addr) (c2 : Nat) (l2 : List Int) (r : List Int) (w : World) (hg0 : GFok w b_a0 a0) (hr2 : Kd.C (Kd.int .i64) w A2 l2.length l2) (hc2 : l2.length ≤ c2) (h : field_GF_Scale.f k a0 a1 l2 = some r) :
  Calls Try.prog 69 #[.pointer (some ⟨b_a0, 0, none⟩), .int .i64 a1, .slice A2 l2.length c2] w fun e w' => ∃ v0_ : Value, e = .returned (v0_) ∧ Kd.R (Kd.int .i64) 3 w' w.heap.size (fun _ => True) v0_ r ∧ Below w.heap.size w w' := by
 have HG_a0 := Q9a.mk hg0;clear hg0;have HR2 := Q9a.mk hr2;have HC2 := Q9a.mk hc2;clear hr2 hc2;have HB := Q9a.mk (Below.refl w.heap.size w);have H : (if 0 ≤ (l2.length : Int) then (if ((l2.length : Int) : Int).toNat ≤ 35184372088832 then (field_GF_Scale.l0 k a0 a1 (List.replicate ((l2.length : Int) : Int).toNat 0) l2 (l2.length : Int) 0) else (none)) else (none)) = some r := h;clear h;by_cases c4 : 0 ≤ (l2.length : Int)
 ·rw [if_pos c4] at H;have c4b0 := eq_true c4;have c4b1 : decide (0 ≤ (l2.length : Int)) = true := decide_eq_true c4;clear c4;by_cases c5 : ((l2.length : Int) : Int).toNat ≤ 35184372088832
  ·rw [if_pos c5] at H;have c5b0 := eq_true c5;have c5b1 : decide (((l2.length : Int) : Int).toNat ≤ 35184372088832) = true := decide_eq_true c5;clear c5;obtain ⟨y159, hy159⟩ : ∃ y_ : List Int, y_ = (List.replicate ((l2.length : Int) : Int).toNat 0) := ⟨_, rfl⟩;replace H : (field_GF_Scale.l0 k a0 a1 y159 l2 (l2.length : Int) 0) = some r := by first | (rw [hy159]; with_reducible exact H) | (have H2_ := (Option.bind_some _ _).symm.trans H; rw [hy159]; with_reducible exact H2_) | (have H2_ := (Option.bind_some _ _).symm.trans H; with_reducible exact H2_) | with_reducible exact H | (rw [hy159]; exact H) | exact H
   have Ny159 := Q9a.mk hy159;clear hy159;have H' := Q9a.mk H;clear H;go_enter Try.func69, Try.ntmps69
   go_wp2_with (first | ((with_reducible refine gD (N := 12) rfl ?_); refine Kd.R_make (Kd.int .i64) _ 3 rfl (N := 12) rfl 22 _ _ rfl (l2.length : Int) rfl rfl Try.underlying22 (.int .i64 0) 8 info3 rfl (by decide) (by omega) 0 (ok := fun _ => True) (okp := fun _ => True) rfl (fun _ hk => hk) trivial (of_decide_eq_true (by first | (with_reducible assumption) | assumption)) (Nat.le_trans (Nat.mul_le_mul_right _ (of_decide_eq_true (by first | (with_reducible assumption) | assumption) : (l2.length : Int).toNat ≤ 35184372088832)) (by omega)) (Below.refl _ _) (Nat.le_refl _) ?_; intro v160 w6 ho7 hb hg_ hnew_; clear hg_ hnew_; (first | rw [← Ny159.out] at ho7 | (simp only [Int.reduceToNat] at ho7; rw [← Ny159.out] at ho7)); have n0_ := Q9a.mk (Kd.rL ho7 (bZ (bI HB.out))); have n1_ := Q9a.mk (bP (bI HB.out) hb); clear HB; have HO161 := n0_; have HB := n1_; clear n0_ n1_; clear hb ho7))
   go_loopg [15] k (fun kq v15 w' => ∃ (x7_1 : List Int) (x15_1 : Int), v15 = .int .i64 x15_1 ∧ Q9a (field_GF_Scale.l0 kq a0 a1 x7_1 l2 (l2.length : Int) x15_1 = some r) ∧ Q9a (kq ≤ k) ∧ Q9a (Kd.R (Kd.int .i64) 3 w' w.heap.size (fun _ => True) v160 x7_1) ∧ Q9a (Below w.heap.size w w'))
   case atStart => exact ⟨(y159), (0), (by first | rfl | (simp; done) | (simp [*]; done)), H', ⟨Nat.le_refl _⟩, ⟨rI HO161.out⟩, ⟨bI HB.out⟩⟩
   case round =>
    clear H';try clear c2
    try clear p2
    try clear c4
    try clear c4b0
    try clear c4b1
    try clear c5
    try clear c5b0
    try clear c5b1
    try clear c6
    obtain ⟨x7_1, x15_1, rfl, HA, HK1, HO_7, HB⟩ := hrel
    cases gk with
    | zero => exact absurd HA.out (by simp [field_GF_Scale.l0])
    | succ k1 =>
     have H := HA.out;clear HA;simp only [field_GF_Scale.l0] at H;by_cases c8 : x15_1 < (l2.length : Int)
     ·rw [if_pos c8] at H;have c8b0 : decide (x15_1 < (l2.length : Int)) = true := decide_eq_true c8;clear c8;by_cases c9 : 0 ≤ x15_1
      ·rw [if_pos c9] at H;have c9b0 : decide (0 ≤ x15_1) = true := decide_eq_true c9;clear c9;by_cases c10 : x15_1 < (l2.length : Int)
       ·rw [if_pos c10] at H;have c10b0 : decide (x15_1 < (l2.length : Int)) = true := decide_eq_true c10;clear c10;replace H := Option.bind_eq_some_iff.mp H;obtain ⟨t163, A110, H⟩ := H;replace H : (if x15_1 < (x7_1.length : Int) then (field_GF_Scale.l0 k1 a0 a1 (x7_1.set (x15_1 : Int).toNat t163) l2 (l2.length : Int) (wrap64 (x15_1 + 1))) else (none)) = some r := H;have A11 := Q9a.mk A110;clear A110;by_cases c12 : x15_1 < (x7_1.length : Int)
        ·rw [if_pos c12] at H;have c12b0 : decide (x15_1 < (x7_1.length : Int)) = true := decide_eq_true c12;clear c12;obtain ⟨y164, hy164⟩ : ∃ y_ : List Int, y_ = (x7_1.set (x15_1 : Int).toNat t163) := ⟨_, rfl⟩;replace H : (field_GF_Scale.l0 k1 a0 a1 y164 l2 (l2.length : Int) (wrap64 (x15_1 + 1))) = some r := by first | (rw [hy164]; with_reducible exact H) | (have H2_ := (Option.bind_some _ _).symm.trans H; rw [hy164]; with_reducible exact H2_) | (have H2_ := (Option.bind_some _ _).symm.trans H; with_reducible exact H2_) | with_reducible exact H | (rw [hy164]; exact H) | exact H
         have Ny164 := Q9a.mk hy164;clear hy164;have H' := Q9a.mk H;clear H;have p162 : 0 ≤ (x15_1 : Int) := of_decide_eq_true (by first | (with_reducible assumption) | assumption);have q162 : x15_1 < (l2.length : Int) := of_decide_eq_true (by first | (with_reducible assumption) | assumption);obtain ⟨ad162, e162, hx162_0⟩ := Kd.at_int HR2.out x15_1 p162 q162
         cases e162
         replace hx162_0 := (HB.out.cell (World.block_lt_of_cell? w _ hx162_0)).trans hx162_0;replace p162 := eq_true p162;replace q162 := eq_true q162;go_wp2_with (first | ((with_reducible refine gC (f := 56) rfl ?_); refine gL (some 25) rfl rfl Try.func56 (by kernel_rfl) rfl #[.pointer (some ⟨b_a0, 0, none⟩), .int .i64 a1, .int .i64 (rd l2 x15_1)] rfl (by (try simp only [sm1, sm2, sm3]); first | done | rfl | (simp only [sm4, sm5]; rfl)) ?_; (with_reducible refine (field_GF_Mul.calls b_a0 a0 a1 (rd l2 x15_1) t163 _ ?side1 A11.out).mono ?_); (case side1 => exact GFok.belowT HG_a0.out (bI HB.out)); rintro e w14 ⟨rfl, hb⟩; refine ⟨_, rfl, ?_⟩; have n0_ := Q9a.mk (Kd.R_below (rI HO_7.out) hb); have n1_ := Q9a.mk (bP (bI HB.out) hb); clear HO_7; clear HB; have HO_7 := n0_; have HB := n1_; clear n0_ n1_; have p13 : 0 ≤ (x15_1 : Int) := of_decide_eq_true (by first | (with_reducible assumption) | assumption); have q13 : (x15_1 : Int) < ((x7_1.length : Int) : Int) := of_decide_eq_true (by first | (with_reducible assumption) | assumption); obtain ⟨go13, co13, eo13, gb13, gl13, cl13, HG13⟩ := Kd.R_form HO_7.out (by omega); (first | cases eo13 | (injection eo13 with ea_ en_ ec_; (first | subst ea_ | (injection ea_ with ea_; subst ea_)); subst ec_; clear en_)); have GB13 := Q9a.mk gb13; have GG13 := Q9a.mk HG13; clear gb13 gl13 HG13; obtain ⟨hx13_0, hf13_0⟩ := Kd.R_celln 0 HO_7.out (x15_1 : Int) p13 q13; replace p13 := eq_true p13; replace q13 := eq_true q13; obtain ⟨hy15_, hz15_⟩ := Kd.R_celln 0 HO_7.out (x15_1 : Int) (of_decide_eq_true (by first | (with_reducible assumption) | assumption)) (of_decide_eq_true (by first | (with_reducible assumption) | assumption)); have HP15 := Kd.R_putg HO_7.out (x15_1 : Int) t163) | ((with_reducible refine gate_store (t := 3) (p := 26) rfl ?_); refine store_event (t := 3) (p := 26) (v := ?vo_w16) (w1 := (w14.setCell ⟨go13, (x15_1 : Int).toNat, none⟩ (.int .i64 t163))) ?hg ?ho ?hn ?hr ?_; (case ho => rfl); (case hg => rfl); (case hn => rfl); (case hr => first | (go_simp; done) | (go_simp; rfl)); intro w16 hw; have hg : w14.grownBy w16 (some go13) := (by rw [hw]; exact HP15.2); have hp_ : Kd.R (Kd.int .i64) 3 w16 w.heap.size (fun _ => True) (.slice (some ⟨go13, 0, none⟩) x7_1.length co13) y164 := (by rw [hw, Ny164.out]; exact HP15.1); clear HP15; have n0_ := Q9a.mk (hp_); have n1_ := Q9a.mk ((by rw [hw]; exact bS (HB.out) GB13.out : Below w.heap.size w w16)); clear HO_7; clear HB; have HO_7 := n0_; have HB := n1_; clear n0_ n1_; clear hg hw hp_))
         go_roundg k1
         case measure => have := HK1.out; omega
         case rel => exact ⟨(y164), (wrap64 (x15_1 + 1)), (by first | rfl | (simp; done) | (simp [*]; done)), H', ⟨by have := HK1.out; omega⟩, ⟨rI HO_7.out⟩, ⟨bI HB.out⟩⟩
        rw [if_neg c12] at H;exact absurd H (by simp)
       rw [if_neg c10] at H;exact absurd H (by simp)
      rw [if_neg c9] at H;exact absurd H (by simp)
     rw [if_neg c8] at H;have c8b0 : decide (x15_1 < (l2.length : Int)) = false := decide_eq_false c8;clear c8;obtain rfl := Option.some.inj H;go_wp2
     go_ret
     exact ⟨_, by first | rfl | (simp [*, eN, eS] <;> rfl), rI HO_7.out, bI HB.out⟩
  rw [if_neg c5] at H;exact absurd H (by simp)
 rw [if_neg c4] at H;exact absurd H (by simp)
def field_GF_Sub.f (a0 : GFv) (a1 : Int) (a2 : Int) : Option (Int) := (field_GF_Neg.f a0 a2).bind fun t165 => ((field_GF_Add.f a0 a1 t165).bind fun t166 => (some t166))
theorem field_GF_Sub.calls (b_a0 : Nat) (a0 : GFv) (a1 : Int) (a2 : Int) (r : Int) (w : World) (hg0 : GFok w b_a0 a0) (h : field_GF_Sub.f a0 a1 a2 = some r) :
  Calls Try.prog 70 #[.pointer (some ⟨b_a0, 0, none⟩), .int .i64 a1, .int .i64 a2] w fun e w' => e = .returned (.int .i64 r) ∧ Below w.heap.size w w' := by
 have HG_a0 := Q9a.mk hg0;clear hg0;have HB := Q9a.mk (Below.refl w.heap.size w);have H : ((field_GF_Neg.f a0 a2).bind fun t165 => ((field_GF_Add.f a0 a1 t165).bind fun t166 => (some t166))) = some r := h;clear h;replace H := Option.bind_eq_some_iff.mp H;obtain ⟨t165, A40, H⟩ := H;replace H : ((field_GF_Add.f a0 a1 t165).bind fun t166 => (some t166)) = some r := H;have A4 := Q9a.mk A40;clear A40;replace H := Option.bind_eq_some_iff.mp H;obtain ⟨t166, A50, H⟩ := H;replace H : (some t166) = some r := H;have A5 := Q9a.mk A50;clear A50;obtain rfl := Option.some.inj H;go_enter Try.func70, Try.ntmps70
 go_wp2_with (first | ((with_reducible refine gC (f := 75) rfl ?_); refine gL (some 11) rfl rfl Try.func75 (by kernel_rfl) rfl #[.pointer (some ⟨b_a0, 0, none⟩), .int .i64 a2] rfl (by (try simp only [sm1, sm2, sm3]); first | done | rfl | (simp only [sm4, sm5]; rfl)) ?_; (with_reducible refine (field_GF_Neg.calls b_a0 a0 a2 t165 _ ?side1 A4.out).mono ?_); (case side1 => exact GFok.belowT HG_a0.out (bI HB.out)); rintro e w6 ⟨rfl, hb⟩; refine ⟨_, rfl, ?_⟩; have n0_ := Q9a.mk (bP (bI HB.out) hb); clear HB; have HB := n0_; clear n0_; (try clear hb); (try clear hb2); (try clear hk); (try clear hi)) | ((with_reducible refine gC (f := 64) rfl ?_); refine gL (some 12) rfl rfl Try.func64 (by kernel_rfl) rfl #[.pointer (some ⟨b_a0, 0, none⟩), .int .i64 a1, .int .i64 t165] rfl (by (try simp only [sm1, sm2, sm3]); first | done | rfl | (simp only [sm4, sm5]; rfl)) ?_; (with_reducible refine (field_GF_Add.calls b_a0 a0 a1 t165 t166 _ ?side1 A5.out).mono ?_); (case side1 => exact GFok.belowT HG_a0.out (bI HB.out)); rintro e w7 ⟨rfl, hb⟩; refine ⟨_, rfl, ?_⟩; have n0_ := Q9a.mk (bP (bI HB.out) hb); clear HB; have HB := n0_; clear n0_; (try clear hb); (try clear hb2); (try clear hk); (try clear hi)))
 go_ret
 exact ⟨by first | rfl | (simp [*, eN, eS] <;> rfl), bI HB.out⟩
end
end Go.Proofs.Ytlbddjojhcgpiaa.P
end
-- Gn
section
namespace Go.Proofs.Ytlbddjojhcgpiaa.P
noncomputable section
open Go.RowKit Go.Proofs.Ytlbddjojhcgpiaa.Hand Go.Proofs.YtlbddjojhcgpiaaW.PrintWords Go.Proofs.YtlbddjojhcgpiaaW.PrintLast Go.Proofs.YtlbddjojhcgpiaaW.PrintMore
set_option linter.unusedVariables false
set_option linter.unusedSimpArgs false
theorem field_generator.callsN (k : Nat) (a0_0 : Int) (a0_1 : Int) (A0_2 : Option Addr) (c0_2 : Nat) (l0_2 : List Int) (a1 : Int) (r : List Int) (w : World) (hr0_2 : Kd.C (Kd.int .i64) w A0_2 l0_2.length l0_2) (hc0_2 : l0_2.length ≤ c0_2) (h : field_generator.f k a0_0 a0_1 l0_2 a1 = some r) :
  Calls Try.prog 67 #[.agg #[.int .i64 a0_0, .int .i64 a0_1, .slice A0_2 l0_2.length c0_2], .int .i64 a1] w fun e w' => ∃ v0_ : Value, e = .returned (v0_) ∧ (r = [] → v0_ = .slice none 0 0) ∧ Kd.R (Kd.int .i64) 3 w' w.heap.size (fun _ => True) v0_ r ∧ Below w.heap.size w w' := by
 have hu24 := Try.underlying24;have HR0_2 := Q9a.mk hr0_2;have HC0_2 := Q9a.mk hc0_2;clear hr0_2 hc0_2;have HB := Q9a.mk (Below.refl w.heap.size w);have H : (field_generator.l0 k a1 1 a0_0 a0_1 l0_2) = some r := h;clear h;have H' := Q9a.mk H;clear H;go_enter Try.func67, Try.ntmps67
 go_wp2_with (first | ((with_reducible refine gD (N := 2) rfl ?_); refine bE ?hg (N := 2) ?hd (cs := #[.int .i64 a0_0, .int .i64 a0_1, .slice A0_2 l0_2.length c0_2]) (t := 24) ?hr ?_; (case hd => rfl); (case hg => rfl); (case hr => first | (go_simp; done) | (go_simp; rfl)); intro gb115 hg w3 hbox hb; have n0_ := Q9a.mk (bP (bI HB.out) hb); have n1_ := Q9a.mk (hbox); have n2_ := Q9a.mk ((by rw [hg]; exact (bZ (bI HB.out)) : w.heap.size ≤ gb115)); have n3_ := n2_; clear HB; have HB := n0_; have BK115 := n1_; have GW115 := n2_; have GE115 := n3_; clear n0_ n1_ n2_ n3_; clear hb hbox hg))
 go_loopg [5] k (fun kq v5 w' => ∃ (x5_1 : Int), v5 = .int .i64 x5_1 ∧ Q9a (field_generator.l0 kq a1 x5_1 a0_0 a0_1 l0_2 = some r) ∧ Q9a (kq ≤ k) ∧ Q9a (w'.heap[gb115]? = some (.cells #[.int .i64 a0_0, .int .i64 a0_1, (.slice A0_2 l0_2.length c0_2)] 24 (0, 0))) ∧ Q9a (Below w.heap.size w w'))
 case atStart => exact ⟨(1), (by first | rfl | (simp; done) | (simp [*]; done)), H', ⟨Nat.le_refl _⟩, ⟨kI BK115.out⟩, ⟨bJ HB.out GE115.out⟩⟩
 case round =>
  clear H';try clear p2
  obtain ⟨x5_1, rfl, HA, HK1, BK115, HB⟩ := hrel
  cases gk with
  | zero => exact absurd HA.out (by simp [field_generator.l0])
  | succ k1 =>
   have H := HA.out;clear HA;simp only [field_generator.l0] at H;by_cases c4 : x5_1 < a1
   ·rw [if_pos c4] at H;have c4b0 : decide (x5_1 < a1) = true := decide_eq_true c4;clear c4;replace H := Option.bind_eq_some_iff.mp H;obtain ⟨t116, A50, H⟩ := H;replace H : (if (t116.length : Int) = (wrap64 (a1 - 1)) then (if 0 ≤ (wrap64 (a1 - 2)) then (if (wrap64 (a1 - 2)) < (t116.length : Int) then ((field_multiply.f k1 a0_0 a0_1 l0_2 (rd t116 (wrap64 (a1 - 2))) x5_1).bind fun t120 => (if t120 = 1 then (some t116) else (field_generator.l0 k1 a1 (wrap64 (x5_1 + 1)) a0_0 a0_1 l0_2))) else (none)) else (none)) else (field_generator.l0 k1 a1 (wrap64 (x5_1 + 1)) a0_0 a0_1 l0_2)) = some r := H;have A5 := Q9a.mk A50;clear A50;by_cases c6 : (t116.length : Int) = (wrap64 (a1 - 1))
    ·rw [if_pos c6] at H;have c6b0 : ((t116.length : Int) == (wrap64 (a1 - 1))) = true := beq_iff_eq.mpr c6;have c6b1 : ((t116.length : Int) != (wrap64 (a1 - 1))) = false := bne_eq_false_iff_eq.mpr c6;clear c6;obtain ⟨ji7, hji7⟩ : ∃ j_ : Int, (wrap64 (a1 - 2)) = j_ := ⟨_, rfl⟩;replace H : (if 0 ≤ (ji7) then (if (ji7) < (t116.length : Int) then ((field_multiply.f k1 a0_0 a0_1 l0_2 (rd t116 (ji7)) x5_1).bind fun t120 => (if t120 = 1 then (some t116) else (field_generator.l0 k1 a1 (wrap64 (x5_1 + 1)) a0_0 a0_1 l0_2))) else (none)) else (none)) = some r := by first | (rw [hji7] at H; exact H) | (simp only [hji7] at H ⊢; exact H)
     (try rw [hji7] at A5)
     have hji7w : (IntKind.i64.wrap (a1 - 2)) = ji7 := (i64_w _).trans hji7;by_cases c8 : 0 ≤ (ji7)
     ·rw [if_pos c8] at H;have c8b0 : decide (0 ≤ (ji7)) = true := decide_eq_true c8;clear c8;by_cases c9 : (ji7) < (t116.length : Int)
      ·rw [if_pos c9] at H;have c9b0 : decide ((ji7) < (t116.length : Int)) = true := decide_eq_true c9;clear c9;replace H := Option.bind_eq_some_iff.mp H;obtain ⟨t120, A100, H⟩ := H;replace H : (if t120 = 1 then (some t116) else (field_generator.l0 k1 a1 (wrap64 (x5_1 + 1)) a0_0 a0_1 l0_2)) = some r := H;have A10 := Q9a.mk A100;clear A100;by_cases c11 : t120 = 1
       ·rw [if_pos c11] at H;have c11b0 : (t120 == 1) = true := beq_iff_eq.mpr c11;have c11b1 : (t120 != 1) = false := bne_eq_false_iff_eq.mpr c11;clear c11;obtain rfl := Option.some.inj H;have hcz12_0 : wr.cell? ⟨gb115, 0, none⟩ = some (.int .i64 a0_0) := (kC BK115.out 0).trans rfl;have hcz12_1 : wr.cell? ⟨gb115, 1, none⟩ = some (.int .i64 a0_1) := (kC BK115.out 1).trans rfl;have hcz12_2 : wr.cell? ⟨gb115, 2, none⟩ = some (.slice A0_2 l0_2.length c0_2) := (kC BK115.out 2).trans rfl;have hfz12_0 := kF BK115.out 0;have hfz12_1 := kF BK115.out 1;have hfz12_2 := kF BK115.out 2;try go_wp2_with (first | ((with_reducible refine gC (f := 91) rfl ?_); refine gL (some 15) rfl rfl Try.func91 (by kernel_rfl) rfl #[.agg #[.int .i64 a0_0, .int .i64 a0_1, .slice A0_2 l0_2.length c0_2], .int .i64 a1, .int .i64 x5_1] rfl (by (try simp only [sm1, sm2, sm3]); first | done | rfl | (simp only [sm4, sm5]; rfl)) ?_; (with_reducible refine (field_powers.calls k1 a0_0 a0_1 _ _ l0_2 a1 x5_1 t116 _ ?side1 ?side2 A5.out).mono ?_); (case side1 => exact cI HR0_2.out HB.out); (case side2 => exact HC0_2.out); rintro e w13 ⟨v117, rfl, ho0, hb⟩; refine ⟨_, rfl, ?_⟩; have n0_ := Q9a.mk (Kd.rL ho0 (bZ (bJ HB.out GE115.out))); have n1_ := Q9a.mk (kB (g := gb115) (o := .cells #[.int .i64 a0_0, .int .i64 a0_1, .slice A0_2 l0_2.length c0_2] 24 (0, 0)) (kI BK115.out) hb); have n2_ := Q9a.mk (bP (bJ HB.out GE115.out) hb); clear BK115; clear HB; have HO118 := n0_; have BK115 := n1_; have HB := n2_; clear n0_ n1_ n2_; (try clear ho0)))
        have n0_ := Q9a.mk (Kd.rD HO118.out);have n1_ := Q9a.mk (kD BK115.out);have n2_ := Q9a.mk (bD HB.out);clear HO118;clear BK115;clear HB;have HO118 := n0_;have BK115 := n1_;have HB := n2_;clear n0_ n1_ n2_;obtain ⟨Ao15, co15, eo15⟩ := Kd.R_slice HO118.out;(first | subst eo15 | (injection eo15 with f1_ f2_ f3_; have f4_ := f1_.symm; have f5_ := f3_.symm; clear f1_ f2_ f3_; subst f4_; subst f5_))
        have p119 : 0 ≤ ((ji7) : Int) := of_decide_eq_true (by first | (with_reducible assumption) | assumption);have q119 : (ji7) < (t116.length : Int) := of_decide_eq_true (by first | (with_reducible assumption) | assumption);obtain ⟨ad119, e119, hx119_0⟩ := Kd.at_int (Kd.R_reads' HO118.out).2.2 (ji7) p119 q119
        cases e119
        replace p119 := eq_true p119;replace q119 := eq_true q119;refine start_ (n := 16) (S := fun w' => w'.cell? ⟨gb115, 0, none⟩ = some (.int .i64 a0_0) ∧ w'.cell? ⟨gb115, 1, none⟩ = some (.int .i64 a0_1) ∧ w'.cell? ⟨gb115, 2, none⟩ = some (.slice A0_2 l0_2.length c0_2) ∧ w'.cell? (ad119.add ((ji7)).toNat) = some (.int .i64 (rd t116 (ji7)))) (ds := []) #[fB,fB,fB,fB,fB,fB,fB,fB,fB,fB,fB,fB,fB,fB,fB,fB] (by kernel_rfl) rfl rfl ⟨(kC BK115.out 0).trans rfl, (kC BK115.out 1).trans rfl, (kC BK115.out 2).trans rfl, hx119_0⟩ (fun hHeld => ?_); refine with_tabW field_generator.tab5 field_generator.bits5 (fun HT_ HW_ => ?_);generalize w13.drew = w14 at HO118 BK115 HB hx119_0 hHeld ⊢;refine pT 0 16 rfl HT_.out ?_;refine pT 1 17 rfl HT_.out ?_;refine pT 2 18 rfl HT_.out ?_;refine pT 3 19 rfl HT_.out ?_;refine pT 4 20 rfl HT_.out ?_;refine pT 5 21 rfl HT_.out ?_;refine pT 7 23 rfl HT_.out ?_;refine pT 8 24 rfl HT_.out ?_;refine pT 9 25 rfl HT_.out ?_;refine pT 10 26 rfl HT_.out ?_;refine pT 12 28 rfl HT_.out ?_;refine tT 6 22 rfl HT_.out HW_.out hHeld ?_;refine tT 11 27 rfl HT_.out HW_.out hHeld ?_;refine oT 13 29 rfl HT_.out (fun K hK => ?_);refine goes_ Try.func92 (by kernel_rfl) rfl #[.agg #[.int .i64 a0_0, .int .i64 a0_1, .slice A0_2 l0_2.length c0_2], .int .i64 (rd t116 (ji7)), .int .i64 x5_1] (by rfl) rfl rfl (by (try simp only [List.map_toArray, List.map_cons, List.map_nil]); first | done | (simp only [hji7]; rfl) | rfl | (simp only [List.length_drop, List.length_take]; rfl)) ?_;with_reducible refine (field_multiply.calls k1 a0_0 a0_1 _ _ l0_2 (rd t116 (ji7)) x5_1 t120 _ ?side1 ?side2 A10.out).mono ?_
        (case side1 => exact cI HR0_2.out HB.out)
        (case side2 => exact HC0_2.out)
        rintro e w16 ⟨rfl, hb⟩;have HS3_ := (hb.cell (World.block_lt_of_cell? _ _ (hHeld.2.2.2))).trans (hHeld.2.2.2);refine ⟨_, rfl, ?_⟩;have n0_ := Q9a.mk (Kd.R_below (rI HO118.out) hb);have n1_ := Q9a.mk (kB (g := gb115) (o := .cells #[.int .i64 a0_0, .int .i64 a0_1, .slice A0_2 l0_2.length c0_2] 24 (0, 0)) (kI BK115.out) hb);have n2_ := Q9a.mk (bP (bJ HB.out GE115.out) hb);clear HO118;clear BK115;clear HB;have HO118 := n0_;have BK115 := n1_;have HB := n2_;clear n0_ n1_ n2_;refine hK.out _ _ ⟨(kC BK115.out 0).trans rfl, (kC BK115.out 1).trans rfl, (kC BK115.out 2).trans rfl, HS3_⟩ (fun hHeld => ?_);clear hK K;refine norm_ (a' := ?_) ?_ ?_;rotate_left
        ·show Act.put _ (some 29) _ = _
         simp only [Act.put, sz1, sz2, sz3, i64_w, i32_w];rfl
        refine pT 14 30 rfl HT_.out ?_;refine pT 15 31 rfl HT_.out ?_;refine done_ (done_of HT_.out (by kernel_rfl)) ?_;try go_wp2
        go_ret
        exact ⟨_, by first | rfl | (simp [eN, eS] <;> rfl) | (simp only [← hji7]; first | rfl | (simp [eN, eS] <;> rfl)) | (simp [*, eN, eS] <;> rfl), (fun e_ => by exfalso; have h8_ := of_decide_eq_true c8b0; have h9_ := of_decide_eq_true c9b0; rw [e_] at h9_; simp at h9_; omega), rI HO118.out, bJ HB.out GE115.out⟩
       rw [if_neg c11] at H;have c11b0 : (t120 == 1) = false := beq_eq_false_iff_ne.mpr c11;have c11b1 : (t120 != 1) = true := bne_iff_ne.mpr c11;have H' := Q9a.mk H;clear H;have hcz17_0 : wr.cell? ⟨gb115, 0, none⟩ = some (.int .i64 a0_0) := (kC BK115.out 0).trans rfl;have hcz17_1 : wr.cell? ⟨gb115, 1, none⟩ = some (.int .i64 a0_1) := (kC BK115.out 1).trans rfl;have hcz17_2 : wr.cell? ⟨gb115, 2, none⟩ = some (.slice A0_2 l0_2.length c0_2) := (kC BK115.out 2).trans rfl;have hfz17_0 := kF BK115.out 0;have hfz17_1 := kF BK115.out 1;have hfz17_2 := kF BK115.out 2;try go_wp2_with (first | ((with_reducible refine gC (f := 91) rfl ?_); refine gL (some 15) rfl rfl Try.func91 (by kernel_rfl) rfl #[.agg #[.int .i64 a0_0, .int .i64 a0_1, .slice A0_2 l0_2.length c0_2], .int .i64 a1, .int .i64 x5_1] rfl (by (try simp only [sm1, sm2, sm3]); first | done | rfl | (simp only [sm4, sm5]; rfl)) ?_; (with_reducible refine (field_powers.calls k1 a0_0 a0_1 _ _ l0_2 a1 x5_1 t116 _ ?side1 ?side2 A5.out).mono ?_); (case side1 => exact cI HR0_2.out HB.out); (case side2 => exact HC0_2.out); rintro e w18 ⟨v117, rfl, ho0, hb⟩; refine ⟨_, rfl, ?_⟩; have n0_ := Q9a.mk (Kd.rL ho0 (bZ (bJ HB.out GE115.out))); have n1_ := Q9a.mk (kB (g := gb115) (o := .cells #[.int .i64 a0_0, .int .i64 a0_1, .slice A0_2 l0_2.length c0_2] 24 (0, 0)) (kI BK115.out) hb); have n2_ := Q9a.mk (bP (bJ HB.out GE115.out) hb); clear BK115; clear HB; have HO118 := n0_; have BK115 := n1_; have HB := n2_; clear n0_ n1_ n2_; (try clear ho0)))
       have n0_ := Q9a.mk (Kd.rD HO118.out);have n1_ := Q9a.mk (kD BK115.out);have n2_ := Q9a.mk (bD HB.out);clear HO118;clear BK115;clear HB;have HO118 := n0_;have BK115 := n1_;have HB := n2_;clear n0_ n1_ n2_;obtain ⟨Ao20, co20, eo20⟩ := Kd.R_slice HO118.out;(first | subst eo20 | (injection eo20 with f1_ f2_ f3_; have f4_ := f1_.symm; have f5_ := f3_.symm; clear f1_ f2_ f3_; subst f4_; subst f5_))
       have p119 : 0 ≤ ((ji7) : Int) := of_decide_eq_true (by first | (with_reducible assumption) | assumption);have q119 : (ji7) < (t116.length : Int) := of_decide_eq_true (by first | (with_reducible assumption) | assumption);obtain ⟨ad119, e119, hx119_0⟩ := Kd.at_int (Kd.R_reads' HO118.out).2.2 (ji7) p119 q119
       cases e119
       replace p119 := eq_true p119;replace q119 := eq_true q119;refine start_ (n := 16) (S := fun w' => w'.cell? ⟨gb115, 0, none⟩ = some (.int .i64 a0_0) ∧ w'.cell? ⟨gb115, 1, none⟩ = some (.int .i64 a0_1) ∧ w'.cell? ⟨gb115, 2, none⟩ = some (.slice A0_2 l0_2.length c0_2) ∧ w'.cell? (ad119.add ((ji7)).toNat) = some (.int .i64 (rd t116 (ji7)))) (ds := []) #[fB,fB,fB,fB,fB,fB,fB,fB,fB,fB,fB,fB,fB,fB,fB,fB] (by kernel_rfl) rfl rfl ⟨(kC BK115.out 0).trans rfl, (kC BK115.out 1).trans rfl, (kC BK115.out 2).trans rfl, hx119_0⟩ (fun hHeld => ?_); refine with_tabW field_generator.tab5 field_generator.bits5 (fun HT_ HW_ => ?_);generalize w18.drew = w19 at HO118 BK115 HB hx119_0 hHeld ⊢;refine pT 0 16 rfl HT_.out ?_;refine pT 1 17 rfl HT_.out ?_;refine pT 2 18 rfl HT_.out ?_;refine pT 3 19 rfl HT_.out ?_;refine pT 4 20 rfl HT_.out ?_;refine pT 5 21 rfl HT_.out ?_;refine pT 7 23 rfl HT_.out ?_;refine pT 8 24 rfl HT_.out ?_;refine pT 9 25 rfl HT_.out ?_;refine pT 10 26 rfl HT_.out ?_;refine pT 12 28 rfl HT_.out ?_;refine tT 6 22 rfl HT_.out HW_.out hHeld ?_;refine tT 11 27 rfl HT_.out HW_.out hHeld ?_;refine oT 13 29 rfl HT_.out (fun K hK => ?_);refine goes_ Try.func92 (by kernel_rfl) rfl #[.agg #[.int .i64 a0_0, .int .i64 a0_1, .slice A0_2 l0_2.length c0_2], .int .i64 (rd t116 (ji7)), .int .i64 x5_1] (by rfl) rfl rfl (by (try simp only [List.map_toArray, List.map_cons, List.map_nil]); first | done | (simp only [hji7]; rfl) | rfl | (simp only [List.length_drop, List.length_take]; rfl)) ?_;with_reducible refine (field_multiply.calls k1 a0_0 a0_1 _ _ l0_2 (rd t116 (ji7)) x5_1 t120 _ ?side1 ?side2 A10.out).mono ?_
       (case side1 => exact cI HR0_2.out HB.out)
       (case side2 => exact HC0_2.out)
       rintro e w21 ⟨rfl, hb⟩;have HS3_ := (hb.cell (World.block_lt_of_cell? _ _ (hHeld.2.2.2))).trans (hHeld.2.2.2);refine ⟨_, rfl, ?_⟩;have n0_ := Q9a.mk (Kd.R_below (rI HO118.out) hb);have n1_ := Q9a.mk (kB (g := gb115) (o := .cells #[.int .i64 a0_0, .int .i64 a0_1, .slice A0_2 l0_2.length c0_2] 24 (0, 0)) (kI BK115.out) hb);have n2_ := Q9a.mk (bP (bJ HB.out GE115.out) hb);clear HO118;clear BK115;clear HB;have HO118 := n0_;have BK115 := n1_;have HB := n2_;clear n0_ n1_ n2_;refine hK.out _ _ ⟨(kC BK115.out 0).trans rfl, (kC BK115.out 1).trans rfl, (kC BK115.out 2).trans rfl, HS3_⟩ (fun hHeld => ?_);clear hK K;refine norm_ (a' := ?_) ?_ ?_;rotate_left
       ·show Act.put _ (some 29) _ = _
        simp only [Act.put, sz1, sz2, sz3, i64_w, i32_w];rfl
       refine pT 14 30 rfl HT_.out ?_;refine pT 15 31 rfl HT_.out ?_;refine done_ (done_of HT_.out (by kernel_rfl)) ?_;try go_wp2
       go_roundg k1
       case measure => have := HK1.out; omega
       case rel => exact ⟨(wrap64 (x5_1 + 1)), (by first | rfl | (simp; done) | (simp [*]; done)), H', ⟨by have := HK1.out; omega⟩, ⟨kI BK115.out⟩, ⟨bJ HB.out GE115.out⟩⟩
      rw [if_neg c9] at H;exact absurd H (by simp)
     rw [if_neg c8] at H;exact absurd H (by simp)
    rw [if_neg c6] at H;have c6b0 : ((t116.length : Int) == (wrap64 (a1 - 1))) = false := beq_eq_false_iff_ne.mpr c6;have c6b1 : ((t116.length : Int) != (wrap64 (a1 - 1))) = true := bne_iff_ne.mpr c6;have H' := Q9a.mk H;clear H;have hcz22_0 : wr.cell? ⟨gb115, 0, none⟩ = some (.int .i64 a0_0) := (kC BK115.out 0).trans rfl;have hcz22_1 : wr.cell? ⟨gb115, 1, none⟩ = some (.int .i64 a0_1) := (kC BK115.out 1).trans rfl;have hcz22_2 : wr.cell? ⟨gb115, 2, none⟩ = some (.slice A0_2 l0_2.length c0_2) := (kC BK115.out 2).trans rfl;have hfz22_0 := kF BK115.out 0;have hfz22_1 := kF BK115.out 1;have hfz22_2 := kF BK115.out 2;try go_wp2_with (first | ((with_reducible refine gC (f := 91) rfl ?_); refine gL (some 15) rfl rfl Try.func91 (by kernel_rfl) rfl #[.agg #[.int .i64 a0_0, .int .i64 a0_1, .slice A0_2 l0_2.length c0_2], .int .i64 a1, .int .i64 x5_1] rfl (by (try simp only [sm1, sm2, sm3]); first | done | rfl | (simp only [sm4, sm5]; rfl)) ?_; (with_reducible refine (field_powers.calls k1 a0_0 a0_1 _ _ l0_2 a1 x5_1 t116 _ ?side1 ?side2 A5.out).mono ?_); (case side1 => exact cI HR0_2.out HB.out); (case side2 => exact HC0_2.out); rintro e w23 ⟨v117, rfl, ho0, hb⟩; refine ⟨_, rfl, ?_⟩; have n0_ := Q9a.mk (Kd.rL ho0 (bZ (bJ HB.out GE115.out))); have n1_ := Q9a.mk (kB (g := gb115) (o := .cells #[.int .i64 a0_0, .int .i64 a0_1, .slice A0_2 l0_2.length c0_2] 24 (0, 0)) (kI BK115.out) hb); have n2_ := Q9a.mk (bP (bJ HB.out GE115.out) hb); clear BK115; clear HB; have HO118 := n0_; have BK115 := n1_; have HB := n2_; clear n0_ n1_ n2_; (try clear ho0)))
    have n0_ := Q9a.mk (Kd.rD HO118.out);have n1_ := Q9a.mk (kD BK115.out);have n2_ := Q9a.mk (bD HB.out);clear HO118;clear BK115;clear HB;have HO118 := n0_;have BK115 := n1_;have HB := n2_;clear n0_ n1_ n2_;obtain ⟨Ao25, co25, eo25⟩ := Kd.R_slice HO118.out;(first | subst eo25 | (injection eo25 with f1_ f2_ f3_; have f4_ := f1_.symm; have f5_ := f3_.symm; clear f1_ f2_ f3_; subst f4_; subst f5_))
    refine start_ (n := 16) (S := fun w' => True) (ds := []) #[fB,fB,fB,fB,fB,fB,fB,fB,fB,fB,fB,fB,fB,fB,fB,fB] (by kernel_rfl) rfl rfl trivial (fun hHeld => ?_); refine with_tabW field_generator.tab5 field_generator.bits5 (fun HT_ HW_ => ?_);generalize w23.drew = w24 at HO118 BK115 HB hHeld ⊢;refine pT 0 16 rfl HT_.out ?_;refine pT 1 17 rfl HT_.out ?_;refine pT 2 18 rfl HT_.out ?_;refine pT 3 19 rfl HT_.out ?_;refine pT 4 20 rfl HT_.out ?_;refine pT 5 21 rfl HT_.out ?_;refine rT 6 22 rfl HT_.out ?_;refine rT 7 23 rfl HT_.out ?_;refine rT 8 24 rfl HT_.out ?_;refine rT 9 25 rfl HT_.out ?_;refine rT 10 26 rfl HT_.out ?_;refine rT 11 27 rfl HT_.out ?_;refine rT 12 28 rfl HT_.out ?_;refine rT 13 29 rfl HT_.out ?_;refine rT 14 30 rfl HT_.out ?_;refine pT 15 31 rfl HT_.out ?_;refine done_ (done_of HT_.out (by kernel_rfl)) ?_;try go_wp2
    go_roundg k1
    case measure => have := HK1.out; omega
    case rel => exact ⟨(wrap64 (x5_1 + 1)), (by first | rfl | (simp; done) | (simp [*]; done)), H', ⟨by have := HK1.out; omega⟩, ⟨kI BK115.out⟩, ⟨bJ HB.out GE115.out⟩⟩
   rw [if_neg c4] at H;have c4b0 : decide (x5_1 < a1) = false := decide_eq_false c4;clear c4;obtain rfl := Option.some.inj H;go_wp2
   go_ret
   exact ⟨_, by first | rfl | (simp [*, eN, eS] <;> rfl), (by first | rfl | exact fun _ => rfl), by first | exact Kd.R_nil _ _ _ _ _ | exact Kd.N_nil _ _ _ _ _ | exact Kd.V_nil _ _ _ _ _ | exact Kd.Q_nil _ _ _ _ _ | exact Kd.S_nil _ _ _ _ _, bJ HB.out GE115.out⟩
end
end Go.Proofs.Ytlbddjojhcgpiaa.P
end
-- D3
section
namespace Go.Proofs.Ytlbddjojhcgpiaa.Pl
open Go.RowKit Go.Proofs.Ytlbddjojhcgpiaa.P Go.Proofs.Ytlbddjojhcgpiaa.Hand Go.Proofs.YtlbddjojhcgpiaaW.PrintWords
def tab (m : Nat) (f : Nat → Nat) : List Nat := (List.range m).map f
theorem tab_length (m : Nat) (f : Nat → Nat) : (tab m f).length = m := by simp [tab]
theorem tab_get {m : Nat} (f : Nat → Nat) {j : Nat} (h : j < m) : (tab m f)[j]? = some (f j) := by simp [tab, h]
theorem tab_ge {m : Nat} (f : Nat → Nat) {j : Nat} (h : m ≤ j) : (tab m f)[j]? = none := by rw [List.getElem?_eq_none]; rw [tab_length]; exact h
theorem rd_tab {m : Nat} (f : Nat → Nat) {j : Nat} (h : j < m) : rd (ints (tab m f)) (j : Int) = (f j : Int) := by
 rw [rd_ints, List.getD_eq_getElem?_getD, tab_get f h]; rfl
theorem tab_congr {m : Nat} {f g : Nat → Nat} (h : ∀ i, i < m → f i = g i) : tab m f = tab m g := List.map_congr_left (fun i hi => h i (List.mem_range.1 hi))
theorem set_tab {m : Nat} (f : Nat → Nat) {j : Nat} (v : Nat) (h : j < m) : (ints (tab m f)).set j (v : Int) = ints (tab m (fun i => if i = j then v else f i)) := by
 apply List.ext_getElem?
 intro i
 have e : ∀ g : Nat → Nat, (ints (tab m g))[i]? = if i < m then some ((g i : Nat) : Int) else none := by
  intro g;unfold ints
  rw [List.getElem?_map];by_cases hi : i < m
  ·rw [tab_get g hi, if_pos hi]; rfl
  rw [tab_ge g (by omega), if_neg hi]; rfl
 rw [List.getElem?_set, e, e, ints_length, tab_length];by_cases hij : j = i
 ·subst hij;rw [if_pos rfl, if_pos h, if_pos h, if_pos rfl]
 rw [if_neg hij];by_cases hi : i < m
 ·rw [if_pos hi, if_pos hi, if_neg (fun h => hij h.symm)]
 rw [if_neg hi, if_neg hi]
theorem shr_tab {m : Nat} (f : Nat → Nat) (h : 0 < m) : (shr1 (ints (tab m f))).set (0 : Int).toNat 0 = ints (tab m (fun i => if i = 0 then 0 else f (i - 1))) := by
 have e : ∀ (g : Nat → Nat) (i : Nat), (ints (tab m g))[i]? = if i < m then some ((g i : Nat) : Int) else none := by
  intro g i;unfold ints
  rw [List.getElem?_map];by_cases hi : i < m
  ·rw [tab_get g hi, if_pos hi]; rfl
  rw [tab_ge g (by omega), if_neg hi]; rfl
 apply List.ext_getElem?
 intro i;rw [e, List.getElem?_set, shr1_length, ints_length, tab_length];show (if 0 = i then if (0 : Int).toNat < m then some 0 else none else (shr1 (ints (tab m f)))[i]?) = _
 by_cases hi : i = 0
 ·subst hi;rw [if_pos rfl, if_pos (by simpa using h), if_pos h, if_pos rfl];rfl
 rw [if_neg (fun h => hi h.symm)];unfold shr1
 rw [List.getElem?_append_right (by rw [List.length_take, ints_length, tab_length]; omega), List.length_take, ints_length, tab_length, Nat.min_eq_left (by omega), List.getElem?_take, e, if_neg hi];by_cases hm : i < m
 ·rw [if_pos hm, if_pos (by omega), if_pos (by omega)]
 rw [if_neg hm, if_neg (by omega)]
def zl {F : Cw.RD} (z : Cw.El F) : List Nat := tab F.m (fun i => (z.c i).v)
theorem zl_eq {F : Cw.RD} (z : Cw.El F) : z.lst.map Cw.Zp.v = zl z := by
 unfold Cw.El.lst zl tab; rw [List.map_map]; rfl
theorem zl_code {F : Cw.RD} (z : Cw.El F) : Cw.cd F.p (zl z) = z.code := by rw [← zl_eq]; rfl
theorem zp_lt {p : Nat} (a : Cw.Zp p) : a.v < p := a.lt
theorem zl_lt {F : Cw.RD} (z : Cw.El F) : ∀ a, a ∈ zl z → a < F.p := by
 intro a ha;obtain ⟨i, -, rfl⟩ := List.mem_map.1 ha;exact zp_lt _
theorem zl_dec {F : Cw.RD} {x : Nat} (h : x < F.p ^ F.m) : Cw.dg F.p F.m x = zl (Cw.El.dec F x) := by
 rw [← zl_eq, Cw.El.dgs, Cw.El.code_dec h]
structure Fits (F : Cw.RD) (mod : List Int) : Prop where
 small : F.p ^ F.m ≤ 256
 coef : ∀ i, 0 ≤ F.f i ∧ F.f i < F.p
 mod1 : F.m = 1 → mod = [] ∧ F.f 0 = 0
 modm : F.m ≠ 1 → mod.length = F.m ∧ ∀ i, i < F.m → mod.getD i 0 = F.f i
theorem Fits.p_le {F : Cw.RD} {mod : List Int} (h : Fits F mod) : F.p ≤ 256 := by
 have := Nat.pow_le_pow_right (n := F.p) (by have := F.prm.1; omega) F.mpos;rw [Nat.pow_one] at this;exact Nat.le_trans this h.small
theorem Fits.m_le {F : Cw.RD} {mod : List Int} (h : Fits F mod) : F.m ≤ 8 := by
 have h2 : 2 ^ F.m ≤ 2 ^ 8 := Nat.le_trans (Nat.pow_le_pow_left F.prm.1 _) h.small;exact (Nat.pow_le_pow_iff_right (by omega)).1 h2
section
variable {F : Cw.RD} {mod : List Int}
theorem next_digit (Z X : Cw.El F) (b : Cw.Zp F.p) {j : Nat} (hj : j < F.m) :
  (((Cw.El.tx Z + Cw.El.sml b X).c j).v : Int) = (((if j = 0 then 0 else (Z.c (j - 1)).v : Nat) : Int) + ((F.p : Int) - ((Z.c (F.m - 1)).v : Int)) * F.f j + (b.v : Int) * ((X.c j).v : Int)) % (F.p : Int) := by
 rw [← Cw.zi_v];congr 2
 rw [Cw.El.c_add, Cw.El.c_tx _ hj, Cw.El.c_sml, Cw.zi_add, Cw.zi_add, Cw.zi_mul, Cw.zi_mul, Cw.zi_of, Cw.zi_of, Int.sub_eq_add_neg, Cw.zi_add, Cw.zi_p, Cw.zi_neg, Cw.zi_of, Cw.zero_add, Cw.neg_mul];congr 2
 by_cases h0 : j = 0
 ·rw [if_pos h0, if_pos h0]; rfl
 rw [if_neg h0, if_neg h0, Cw.zi_of]
theorem top_val (p s t b x c : Nat) (hp : p ≤ 256) (hs : s < p) (ht : t < p) (hb : b < p) (hx : x < p) (hc : c < p) :
  Int.tmod (wrap64 (wrap64 ((s : Int) + wrap64 (wrap64 ((p : Int) - (t : Int)) * (c : Int))) + wrap64 ((b : Int) * (x : Int)))) (p : Int) = ((s : Int) + ((p : Int) - (t : Int)) * (c : Int) + (b : Int) * (x : Int)) % (p : Int) := by
 have h1 : (p : Int) - (t : Int) = ((p - t : Nat) : Int) := by omega
 have m1 := Nat.mul_le_mul (show p - t ≤ 256 by omega) (show c ≤ 256 by omega);have m2 := Nat.mul_le_mul (show b ≤ 256 by omega) (show x ≤ 256 by omega);rw [h1, w64n _ (by omega), ← Int.natCast_mul, ← Int.natCast_mul, w64n _ (by omega), w64n _ (by omega), ← Int.natCast_add, w64n _ (by omega), ← Int.natCast_add, w64n _ (by omega)];exact Int.tmod_eq_emod_of_nonneg (by omega)
theorem low_val (p s b x : Nat) (hp : p ≤ 256) (hs : s < p) (hb : b < p) (hx : x < p) :
  Int.tmod (wrap64 (wrap64 ((s : Int) + wrap64 0) + wrap64 ((b : Int) * (x : Int)))) (p : Int) = ((s : Int) + (b : Int) * (x : Int)) % (p : Int) := by
 have m2 := Nat.mul_le_mul (show b ≤ 256 by omega) (show x ≤ 256 by omega);rw [w64 (n := 0) (by omega) (by omega), Int.add_zero, ← Int.natCast_mul, w64n _ (by omega), w64n _ (by omega), ← Int.natCast_add, w64n _ (by omega)];exact Int.tmod_eq_emod_of_nonneg (by omega)
theorem mul_inner (hF : Fits F mod) (X Y Z : Cw.El F) (i : Nat) (hi : i < F.m) (R : Int) : ∀ (d j : Nat), j + d = F.m →
  Ev (fun k => field_multiply.l0 k (ints (zl X)) (ints (zl Y)) (ints (zl (Cw.El.tx Z + Cw.El.sml (Y.c i) X))) ((i : Int) - 1) (F.p : Int) (F.m : Int) mod) R →
  Ev (fun k => field_multiply.l1 k (ints (zl X)) (ints (zl Y)) (ints (tab F.m (fun t => if t < j then ((Cw.El.tx Z + Cw.El.sml (Y.c i) X).c t).v else if t = 0 then 0 else (Z.c (t - 1)).v))) (i : Int) ((Z.c (F.m - 1)).v : Int) (F.m : Int) (j : Int) (F.p : Int) (F.m : Int) mod) R := by
 intro d;have hm := hF.m_le;have hp := hF.p_le;have hp2 := F.prm.1;induction d with
 | zero =>
  intro j hj H;obtain rfl : j = F.m := by omega
  refine Ev.step (fun k => ?_) H;simp only [field_multiply.l1];rw [if_neg (by omega), w64 (by omega) (by omega)];congr 2
  exact tab_congr (fun t ht => by rw [if_pos ht])
 | succ d ih =>
  intro j hj H;refine Ev.step (fun k => ?_) (ih (j + 1) (by omega) H);have hjm : j < F.m := by omega
  have hcj : (j : Int) < (F.m : Int) := by omega
  have hj0 : (0 : Int) ≤ (j : Int) := by omega
  have hi0 : (0 : Int) ≤ (i : Int) := by omega
  have him : (i : Int) < (F.m : Int) := by omega
  have hpne : ¬ (F.p : Int) = 0 := by omega
  have hjj : ¬ j < j := by omega
  have hj1 : wrap64 ((j : Int) + 1) = ((j + 1 : Nat) : Int) := by rw [w64 (by omega) (by omega)]; rfl
  have hmc : F.m = 1 ∧ j = 0 ∧ ¬ (F.m : Int) > 1 ∨ ¬ F.m = 1 ∧ (F.m : Int) > 1 := by omega
  obtain ⟨c, hc', hcp⟩ : ∃ c : Nat, F.f j = (c : Int) ∧ c < F.p := by
   have hc := hF.coef j;obtain ⟨c, hc'⟩ := Int.eq_ofNat_of_zero_le hc.1;exact ⟨c, hc', by omega⟩
  have hset : ∀ v : Nat, v = ((Cw.El.tx Z + Cw.El.sml (Y.c i) X).c j).v → (ints (tab F.m (fun t => if t < j then ((Cw.El.tx Z + Cw.El.sml (Y.c i) X).c t).v else if t = 0 then 0 else (Z.c (t - 1)).v))).set j (v : Int) = ints (tab F.m (fun t => if t < j + 1 then ((Cw.El.tx Z + Cw.El.sml (Y.c i) X).c t).v else if t = 0 then 0 else (Z.c (t - 1)).v)) := by
   intro v hv;rw [set_tab _ _ hjm];congr 1
   apply tab_congr
   intro t _;by_cases h1 : t = j
   ·rw [h1, if_pos rfl, if_pos (Nat.lt_succ_self j), hv]
   rw [if_neg h1];by_cases h2 : t < j
   ·rw [if_pos h2, if_pos (Nat.lt_succ_of_lt h2)]
   rw [if_neg h2, if_neg (fun h => (Nat.lt_or_eq_of_le (Nat.le_of_lt_succ h)).elim h2 h1)]
  have hs : ((if j = 0 then 0 else (Z.c (j - 1)).v : Nat)) < F.p := by
   by_cases h0 : j = 0
   ·rw [if_pos h0]; exact Nat.lt_of_lt_of_le (by decide) hp2
   rw [if_neg h0]; exact zp_lt _
  have ht := zp_lt (Z.c (F.m - 1));have hb := zp_lt (Y.c i);have hx := zp_lt (X.c j);have hnd := next_digit Z X (Y.c i) hjm;rw [hc'] at hnd
  have hr9 : rd (ints (tab F.m (fun t => if t < j then ((Cw.El.tx Z + Cw.El.sml (Y.c i) X).c t).v else if t = 0 then 0 else (Z.c (t - 1)).v))) (j : Int) = ((if j = 0 then 0 else (Z.c (j - 1)).v : Nat) : Int) := by
   rw [rd_tab _ hjm, if_neg hjj]
  have hr8 : rd (ints (zl Y)) (i : Int) = ((Y.c i).v : Int) := rd_tab _ hi;have hr7 : rd (ints (zl X)) (j : Int) = ((X.c j).v : Int) := rd_tab _ hjm;have hl9 : ∀ f, ((ints (tab F.m f)).length : Int) = (F.m : Int) := fun f => by rw [ints_length, tab_length]
  have hlX : ((ints (zl X)).length : Int) = (F.m : Int) := hl9 _;have hlY : ((ints (zl Y)).length : Int) = (F.m : Int) := hl9 _;have k9 := hcj; rw [← hl9 (fun t => if t < j then ((Cw.El.tx Z + Cw.El.sml (Y.c i) X).c t).v else if t = 0 then 0 else (Z.c (t - 1)).v)] at k9;have kY := him; rw [← hlY] at kY;have kX := hcj; rw [← hlX] at kX;generalize hs9 : (if j = 0 then 0 else (Z.c (j - 1)).v : Nat) = s at hs hnd hr9;generalize hN : (ints (tab F.m (fun t => if t < j + 1 then ((Cw.El.tx Z + Cw.El.sml (Y.c i) X).c t).v else if t = 0 then 0 else (Z.c (t - 1)).v))) = NEW at hset ⊢;generalize hO : (ints (tab F.m (fun t => if t < j then ((Cw.El.tx Z + Cw.El.sml (Y.c i) X).c t).v else if t = 0 then 0 else (Z.c (t - 1)).v))) = OLD at hset hr9 k9 ⊢;clear hN hO hs9 hl9 ih H;generalize ((Cw.El.tx Z + Cw.El.sml (Y.c i) X).c j).v = nw at hnd hset;generalize (Z.c (F.m - 1)).v = top at ht hnd ⊢;generalize (Y.c i).v = yi at hb hnd hr8;generalize (X.c j).v = xj at hx hnd hr7;generalize ints (zl X) = LX at hr7 kX hlX ⊢;generalize ints (zl Y) = LY at hr8 kY hlY ⊢;rcases hmc with ⟨h1, hjz, hm1⟩ | ⟨h1, hm1⟩
  ·have hf0 : c = 0 := by
    have := (hF.mod1 h1).2;rw [hjz, this] at hc';exact Int.ofNat.inj hc'.symm
   have hv := low_val F.p _ _ _ hp hs hb hx;rw [hf0, Int.natCast_zero, Int.mul_zero, Int.add_zero, ← hv] at hnd;simp only [field_multiply.l1];rw [if_pos hcj, if_neg hm1, if_pos hj0, if_pos k9, if_pos hi0, if_pos kY, if_pos kX, if_neg hpne, hr9, hr8, hr7, hj1, Int.toNat_natCast, ← hnd, hset _ rfl]
  obtain ⟨hml, hmd⟩ := hF.modm h1;have hrm : rd mod (j : Int) = (c : Int) := by unfold rd; rw [Int.toNat_natCast, hmd j hjm]; exact hc'
  have hmj : (j : Int) < (mod.length : Int) := by rw [hml]; exact hcj
  have hv := top_val F.p _ _ _ _ _ hp hs ht hb hx hcp;rw [← hv] at hnd;simp only [field_multiply.l1];rw [if_pos hcj, if_pos hm1, if_pos hj0, if_pos hmj, if_pos k9, if_pos hi0, if_pos kY, if_pos kX, if_neg hpne, hr9, hr8, hr7, hrm, hj1, Int.toNat_natCast, ← hnd, hset _ rfl]
theorem mul_outer (hF : Fits F mod) (X Y : Cw.El F) : ∀ (n : Nat) (A B : List (Cw.Zp F.p)), A.length = n → A ++ B = Y.lst →
  Ev (fun k => field_multiply.l0 k (ints (zl X)) (ints (zl Y)) (ints (zl ((Cw.El.op F).act B X))) ((n : Int) - 1) (F.p : Int) (F.m : Int) mod) ((X * Y).code : Int) := by
 intro n;have hm := hF.m_le;have hm1 := F.mpos;induction n with
 | zero =>
  intro A B hA hAB;obtain rfl := List.length_eq_zero_iff.1 hA;rw [List.nil_append] at hAB;subst hAB;have hv := valueOf_ev F.p (zl (X * Y)) (by have := F.prm.1; omega) (by have := hF.p_le; omega) (zl_lt _) (by unfold zl; rw [tab_length]; have := hF.small; omega) (by unfold zl; rw [tab_length]; omega);rw [zl_code] at hv;refine Ev.step (fun k => ?_) (Ev.bind hv (Ev.now _));simp only [field_multiply.l0];rw [if_neg (by omega)];rfl
 | succ n ih =>
  intro A B hA hAB;obtain ⟨A', a, rfl⟩ := Cw.snoc_ex A (by rintro rfl; simp at hA);simp at hA
  have e : A' ++ (a :: B) = Y.lst := by rw [← hAB]; simp
  have h := ih A' (a :: B) hA e
  have hn : n < F.m := by
   have := congrArg List.length e;rw [Cw.El.lst_length, List.length_append, List.length_cons] at this;omega
  have ha : Y.c n = a := by
   rw [← Cw.El.gd_lst, ← e, Cw.gd_append_right (by omega), hA, Nat.sub_self]; rfl
  have hact : (Cw.El.op F).act (a :: B) X = Cw.El.tx ((Cw.El.op F).act B X) + Cw.El.sml (Y.c n) X := by
   rw [Cw.Op.act_cons, ha];exact (Cw.El.op F).add_comm _ _
  rw [hact] at h;have hin := mul_inner hF X Y ((Cw.El.op F).act B X) n hn _ F.m 0 (by omega) h;refine Ev.step (fun k => ?_) hin;simp only [field_multiply.l0];have hl9 : ((ints (zl ((Cw.El.op F).act B X))).length : Int) = (F.m : Int) := by unfold zl; rw [ints_length, tab_length]
  have e2 : wrap64 ((F.m : Int) - 1) = ((F.m - 1 : Nat) : Int) := by rw [w64 (by omega) (by omega)]; omega
  rw [if_pos (by omega), e2, if_pos (by omega), if_pos (by rw [hl9]; omega), if_pos (by rw [hl9]), if_pos (by rw [hl9]; omega), hl9];have hr : rd (ints (zl ((Cw.El.op F).act B X))) ((F.m - 1 : Nat) : Int) = ((((Cw.El.op F).act B X).c (F.m - 1)).v : Int) := rd_tab _ (by omega);rw [hr];unfold zl
  rw [shr_tab _ hm1, show ((n + 1 : Nat) : Int) - 1 = (n : Int) by omega];rfl
theorem multiply_ev (hF : Fits F mod) {x y : Nat} (hx : x < F.p ^ F.m) (hy : y < F.p ^ F.m) :
  Ev (fun k => field_multiply.f k (F.p : Int) (F.m : Int) mod (x : Int) (y : Int)) ((Cw.El.dec F x * Cw.El.dec F y).code : Int) := by
 have hs := hF.small;have hm := hF.m_le;have hp := F.prm.1;have h1 := digitsOf_ev x F.p F.m (by omega) (by omega) (by omega);have h2 := digitsOf_ev y F.p F.m (by omega) (by omega) (by omega);rw [zl_dec hx] at h1;rw [zl_dec hy] at h2;have h3 := mul_outer hF (Cw.El.dec F x) (Cw.El.dec F y) F.m (Cw.El.dec F y).lst [] (Cw.El.lst_length _) (by simp);unfold field_multiply.f
 refine Ev.bind h1 (Ev.bind h2 (Ev.congr (fun k => ?_) h3));rw [if_pos (by omega), if_pos (by omega), Int.toNat_natCast, w64 (n := (F.m : Int) - 1) (by omega) (by omega)];congr 1
 rw [ints_zero];congr 1
 apply List.ext_getElem?
 intro i;unfold zl
 by_cases hi : i < F.m
 ·rw [tab_get _ hi, List.getElem?_replicate, if_pos hi];congr 1
  show 0 = ((0 : Cw.El F).c i).v
  rw [Cw.El.c_zero];show 0 = (Cw.zi 0 : Cw.Zp F.p).v
  unfold Cw.zi
  simp
 rw [tab_ge _ (by omega), List.getElem?_replicate, if_neg hi]
end
end Go.Proofs.Ytlbddjojhcgpiaa.Pl
end
-- D5
section
namespace Go.Proofs.Ytlbddjojhcgpiaa.Pl
open Go.RowKit Go.Proofs.Ytlbddjojhcgpiaa.P Go.Proofs.Ytlbddjojhcgpiaa.Hand Go.Proofs.YtlbddjojhcgpiaaW.PrintWords
def stp (p d i j : Nat) (g lw : Nat → Nat) : Nat → Nat := fun t => if i - d ≤ t ∧ t < i - d + j then (g t + (p - g i) * lw (t - (i - d))) % p else g t
def nxt (p d i : Nat) (g lw : Nat → Nat) : Nat → Nat := fun t => if t = i then 0 else if i - d ≤ t ∧ t < i then (g t + (p - g i) * lw (t - (i - d))) % p else g t
theorem div_val (p a c b : Nat) (hp : p ≤ 256) (hp0 : 0 < p) (ha : a < p) (hc : c < p) (hb : b < p) :
  Int.tmod (wrap64 ((a : Int) + wrap64 (wrap64 ((p : Int) - (c : Int)) * (b : Int)))) (p : Int) = (((a + (p - c) * b) % p : Nat) : Int) := by
 have h1 : (p : Int) - (c : Int) = ((p - c : Nat) : Int) := by omega
 have m1 := Nat.mul_le_mul (show p - c ≤ 256 by omega) (show b ≤ 256 by omega);rw [h1, w64n _ (by omega), ← Int.natCast_mul, w64n _ (by omega), ← Int.natCast_add, w64n _ (by omega), Cw.tmod_nat]
theorem div_inner (p n d i : Nat) (g lw : Nat → Nat) (hp : p ≤ 256) (hp0 : 0 < p) (hn : n ≤ 100) (hdi : d ≤ i) (hin : i < n) (hg : ∀ t, g t < p) (hl : ∀ t, lw t < p) (R : Bool)
  (H : Ev (fun k => r4divides.l0 k (ints (tab d lw)) (p : Int) (d : Int) (ints (tab n (nxt p d i g lw))) ((i : Int) - 1)) R) : ∀ e j, j + e = d →
  Ev (fun k => r4divides.l1 k (ints (tab d lw)) (p : Int) (d : Int) (ints (tab n (stp p d i j g lw))) (i : Int) (g i : Int) (j : Int)) R := by
 intro e;induction e with
 | zero =>
  intro j hj;obtain rfl : j = d := by omega
  refine Ev.step (fun k => ?_) H;have hl9 : ((ints (tab n (stp p j i j g lw))).length : Int) = (n : Int) := by rw [ints_length, tab_length]
  have hw : wrap64 ((i : Int) - 1) = (i : Int) - 1 := w64 (by omega) (by omega);have hjn : ¬ (j : Int) < (j : Int) := by omega
  have hi0 : (0 : Int) ≤ (i : Int) := by omega
  have hii : (i : Int) < (n : Int) := by omega
  have k9 := Int.lt_of_lt_of_le hii (Int.le_of_eq hl9.symm);simp only [r4divides.l1];rw [if_neg hjn, if_pos hi0, if_pos k9, hw, Int.toNat_natCast, show (0 : Int) = ((0 : Nat) : Int) from rfl, set_tab _ _ hin];congr 2
  apply tab_congr
  intro t _;unfold stp nxt
  by_cases ht : t = i
  ·rw [if_pos ht, if_pos ht]
  rw [if_neg ht, if_neg ht];by_cases h2 : i - j ≤ t ∧ t < i
  ·rw [if_pos h2, if_pos (by omega)]
  rw [if_neg h2, if_neg (by omega)]
 | succ e ih =>
  intro j hj;refine Ev.step (fun k => ?_) (ih (j + 1) (by omega));have hjd9 : j < d := by omega
  have hlt9 : ¬ i - d + j < i - d + j := Nat.lt_irrefl _
  have hid : wrap64 (wrap64 ((i : Int) - (d : Int)) + (j : Int)) = ((i - d + j : Nat) : Int) := by
   rw [w64 (n := (i : Int) - (d : Int)) (by omega) (by omega), w64 (by omega) (by omega)]; omega
  have hjd : (j : Int) < (d : Int) := by omega
  have hj0 : (0 : Int) ≤ (j : Int) := by omega
  have hp9 : ¬ (p : Int) = 0 := by omega
  have h0 : (0 : Int) ≤ ((i - d + j : Nat) : Int) := by omega
  have h1 : ((i - d + j : Nat) : Int) < (n : Int) := by omega
  have h1n : i - d + j < n := by omega
  have hj1 : wrap64 ((j : Int) + 1) = ((j + 1 : Nat) : Int) := by rw [w64 (by omega) (by omega)]; rfl
  have hnew : ints (tab n (fun t => if t = i - d + j then (g (i - d + j) + (p - g i) * lw j) % p else stp p d i j g lw t)) = ints (tab n (stp p d i (j + 1) g lw)) := by
   congr 1
   apply tab_congr
   intro t _;unfold stp
   by_cases ht : t = i - d + j
   ·rw [if_pos ht, if_pos (by omega), ht, show i - d + j - (i - d) = j by omega]
   rw [if_neg ht];by_cases h2 : i - d ≤ t ∧ t < i - d + j
   ·rw [if_pos h2, if_pos (by omega)]
   rw [if_neg h2, if_neg (by omega)]
  have hr8 : rd (ints (tab n (stp p d i j g lw))) ((i - d + j : Nat) : Int) = (g (i - d + j) : Int) := by
   rw [rd_tab _ h1n];unfold stp
   rw [if_neg (fun h => hlt9 h.2)]
  have hr0 : rd (ints (tab d lw)) (j : Int) = (lw j : Int) := rd_tab _ hjd9;have hl9 : ((ints (tab n (stp p d i j g lw))).length : Int) = (n : Int) := by rw [ints_length, tab_length]
  have hlw : ((ints (tab d lw)).length : Int) = (d : Int) := by rw [ints_length, tab_length]
  have k9 := Int.lt_of_lt_of_le h1 (Int.le_of_eq hl9.symm);have kl := Int.lt_of_lt_of_le hjd (Int.le_of_eq hlw.symm);clear hl9 hlw;simp only [r4divides.l1];rw [if_pos hjd, hid, if_pos h0, if_pos k9, if_pos hj0, if_pos kl, if_neg hp9, hr8, hr0, div_val p _ _ _ hp hp0 (hg _) (hg _) (hl _), hj1, Int.toNat_natCast, set_tab _ _ h1n, hnew]
theorem l2_ev (n : Nat) (g : Nat → Nat) (hn : n ≤ 100) : ∀ e j, j + e = n → (∀ t, t < j → g t = 0) → Ev (fun k => r4divides.l2 k (ints (tab n g)) (j : Int)) (decide (∀ t, t < n → g t = 0)) := by
 intro e;have hl9 : ((ints (tab n g)).length : Int) = (n : Int) := by rw [ints_length, tab_length]
 induction e with
 | zero =>
  intro j hj h;obtain rfl : j = n := by omega
  refine Ev.step (f := fun _ => some _) (fun k => ?_) (Ev.now _);simp only [r4divides.l2];rw [hl9, if_neg (by omega), decide_eq_true h]
 | succ e ih =>
  intro j hj h;have hjn : j < n := by omega
  have hr : rd (ints (tab n g)) (j : Int) = (g j : Int) := rd_tab _ hjn;by_cases hz : g j = 0
  ·refine Ev.step (fun k => ?_) (ih (j + 1) (by omega) (fun t ht => by
    by_cases htj : t = j
    ·rw [htj]; exact hz
    exact h t (by omega)))
   simp only [r4divides.l2];rw [hl9, if_pos (by omega), if_pos (by omega), hr, if_pos (by omega), w64 (by omega) (by omega)];rfl
  refine Ev.step (f := fun _ => some _) (fun k => ?_) (Ev.now _);simp only [r4divides.l2];rw [hl9, if_pos (by omega), if_pos (by omega), hr, if_neg (by omega), decide_eq_false (fun hh => hz (hh j hjn))]
section
variable {F : Cw.RD} {mod : List Int}
open Cw.El in
theorem div_outer (hp : F.p ≤ 256) (d n : Nat) (lw : Nat → Nat) (hd : d < n) (hn : n ≤ 100) (hl : ∀ t, lw t < F.p) : ∀ (e : Nat) (g : Nat → Nat) (E : List (Cw.Zp F.p)), d + e ≤ n → (∀ t, g t < F.p) → (∀ t, d + e ≤ t → t < n → g t = 0) →
  Cw.DivRel (md F) (zl' F.p d lw ++ [1]) E (zl' F.p n g) → (e = n - d ∧ E = [] ∧ g (n - 1) = 1 ∨ e < n - d ∧ E.length ≤ n - d ∧ Cw.gd E (n - 1 - d) = 1) →
  ∃ (E' : List (Cw.Zp F.p)) (g' : Nat → Nat), (∀ t, g' t < F.p) ∧ (∀ t, d ≤ t → t < n → g' t = 0) ∧ Cw.DivRel (md F) (zl' F.p d lw ++ [1]) E' (zl' F.p n g') ∧ E'.length ≤ n - d ∧ Cw.gd E' (n - 1 - d) = 1 ∧
   Ev (fun k => r4divides.l0 k (ints (tab d lw)) (F.p : Int) (d : Int) (ints (tab n g)) (((d + e : Nat) : Int) - 1)) (decide (∀ t, t < n → g' t = 0)) := by
 intro e;have hp2 := F.prm.1;induction e with
 | zero =>
  intro g E he hg hz hD hE;rcases hE with ⟨h, _⟩ | ⟨_, h1, h2⟩
  ·omega
  refine ⟨E, g, hg, hz, hD, h1, h2, Ev.step (fun k => ?_) (l2_ev n g hn n 0 (by omega) (fun t ht => by omega))⟩;simp only [r4divides.l0];rw [if_neg (by omega)];rfl
 | succ e ih =>
  intro g E he hg hz hD hE;have hin : d + e < n := by omega
  have hgn : ∀ t, nxt F.p d (d + e) g lw t < F.p := by
   intro t;unfold nxt
   by_cases h1 : t = d + e
   ·rw [if_pos h1]; omega
   rw [if_neg h1];by_cases h2 : d + e - d ≤ t ∧ t < d + e
   ·rw [if_pos h2]; exact Nat.mod_lt _ (by omega)
   rw [if_neg h2]; exact hg t
  have hstep := div_step (E := E) (G := md F) (n := n) (d := d) (i := d + e) (low := lw) (g := g) (g' := nxt F.p d (d + e) g lw) (by omega) hin hD (fun t ht => by
   unfold nxt
   by_cases h1 : t = d + e
   ·rw [if_pos h1, if_pos h1]; rfl
   rw [if_neg h1, if_neg h1];by_cases h2 : d + e - d ≤ t ∧ t < d + e
   ·rw [if_pos h2, if_pos h2];have hgi := hg (d + e);rw [Int.natCast_emod, Cw.zi_emod, Int.natCast_add, Int.natCast_mul, Cw.zi_add, Cw.zi_mul, show ((F.p - g (d + e) : Nat) : Int) = (F.p : Int) + -(g (d + e) : Int) by omega, Cw.zi_add, Cw.zi_p, Cw.zero_add, Cw.zi_neg, Cw.neg_mul]
   rw [if_neg h2, if_neg h2])
  obtain ⟨E', g', a1, a2, a3, a4, a5, a6⟩ := ih (nxt F.p d (d + e) g lw) _ (by omega) hgn (fun t ht htn => by
   unfold nxt
   by_cases h1 : t = d + e
   ·rw [if_pos h1]
   rw [if_neg h1, if_neg (by omega)]
   exact hz t (by omega) htn) hstep (Or.inr ⟨by omega, by
    rcases hE with ⟨h1, h2, h3⟩ | ⟨h1, h2, h3⟩
    ·subst h2;exact quo_len (Nat.zero_le _) _ (by omega)
    ·exact quo_len h2 _ (by omega), by
    rcases hE with ⟨h1, h2, h3⟩ | ⟨h1, h2, h3⟩
    ·subst h2;rw [show d + e = n - 1 by omega, h3, Cw.gd_padd, Cw.gd_nil, Cw.zero_add, Cw.gd_shift, if_neg (by omega), Nat.sub_self, Cw.gd_zero]; rfl
    exact quo_top h3 _ (by omega)⟩)
  refine ⟨E', g', a1, a2, a3, a4, a5, ?_⟩;have hin2 := div_inner F.p n d (d + e) g lw hp (by omega) hn (by omega) hin hg hl _ a6 d 0 (by omega);refine Ev.step (fun k => ?_) hin2;have hl9 : ((ints (tab n g)).length : Int) = (n : Int) := by rw [ints_length, tab_length]
  have hx : ((d + (e + 1) : Nat) : Int) - 1 = ((d + e : Nat) : Int) := by omega
  simp only [r4divides.l0];rw [hx, if_pos (by omega), if_pos (by omega), hl9, if_pos (by omega), rd_tab _ hin];congr 2
  apply tab_congr
  intro t _;unfold stp
  rw [if_neg (by omega)]
open Cw.El in
theorem divides_ev (hF : Fits F mod) (hm : F.m ≠ 1) (d : Nat) (lw : Nat → Nat) (hd : 1 ≤ d) (hdm : d < F.m) (hl : ∀ t, lw t < F.p) :
  (∃ E, Cw.DivRel (md F) (zl' F.p d lw ++ [1]) E [] ∧ E.length ≤ F.m + 1 - d ∧ Cw.gd E (F.m - d) = 1 ∧ Ev (fun k => r4divides.f k (ints (tab d lw)) mod (F.p : Int)) true) ∨
  ((∀ E, ¬ Cw.DivRel (md F) (zl' F.p d lw ++ [1]) E []) ∧ Ev (fun k => r4divides.f k (ints (tab d lw)) mod (F.p : Int)) false) := by
 have hp := hF.p_le;have hp2 := F.prm.1;have hm8 := hF.m_le;obtain ⟨hml, hmd⟩ := hF.modm hm;let g : Nat → Nat := fun t => if t < F.m then (F.f t).toNat else if t = F.m then 1 else 0
 have hg : ∀ t, g t < F.p := by
  intro t;show (if t < F.m then (F.f t).toNat else if t = F.m then 1 else 0) < F.p
  have := hF.coef t;by_cases h1 : t < F.m
  ·rw [if_pos h1]; omega
  rw [if_neg h1];by_cases h2 : t = F.m
  ·rw [if_pos h2]; omega
  rw [if_neg h2]; omega
 have hgm : mod ++ [1] = ints (tab (F.m + 1) g) := by
  have e1 : mod = ints (tab F.m g) := by
   apply List.ext_getElem?
   intro i;unfold ints
   rw [List.getElem?_map];by_cases hi : i < F.m
   ·rw [tab_get g hi];have h1 := hmd i hi;rw [List.getD_eq_getElem?_getD, List.getElem?_eq_getElem (by omega)] at h1;rw [List.getElem?_eq_getElem (by omega)];have h2 := hF.coef i;show some _ = some _
    congr 1
    show _ = ((if i < F.m then (F.f i).toNat else if i = F.m then 1 else 0 : Nat) : Int)
    rw [if_pos hi, Int.toNat_of_nonneg h2.1, ← h1]; rfl
   rw [tab_ge g (by omega), List.getElem?_eq_none (by omega)]; rfl
  have e2 : ((1 : Int)) = ((g F.m : Nat) : Int) := by
   show (1 : Int) = ((if F.m < F.m then (F.f F.m).toNat else if F.m = F.m then 1 else 0 : Nat) : Int)
   rw [if_neg (by omega), if_pos rfl]; rfl
  have e3 : ints (tab (F.m + 1) g) = ints (tab F.m g) ++ [(g F.m : Int)] := by
   unfold tab
   rw [List.range_succ, List.map_append, ints_append]; rfl
  rw [e3, ← e1, ← e2]
 have hst : Cw.DivRel (md F) (zl' F.p d lw ++ [1]) [] (zl' F.p (F.m + 1) g) := by
  refine (Cw.DivRel.start _ _).congr (fun i => ?_);rw [gd_zl'];unfold md
  by_cases hi : i < F.m
  ·rw [Cw.gd_append_left (by simpa using hi), Cw.gd_range, if_pos hi, if_pos (by omega)];have h2 := hF.coef i;congr 1
   show F.f i = ((if i < F.m then (F.f i).toNat else if i = F.m then 1 else 0 : Nat) : Int)
   rw [if_pos hi]; omega
  rw [Cw.gd_append_right (by simp; omega), List.length_map, List.length_range];by_cases hi2 : i = F.m
  ·rw [if_pos (by omega), hi2, Nat.sub_self, Cw.gd_zero];show (1 : Cw.Zp F.p) = Cw.zi ((if F.m < F.m then (F.f F.m).toNat else if F.m = F.m then 1 else 0 : Nat) : Int)
   rw [if_neg (by omega), if_pos rfl]; rfl
  rw [if_neg (by omega), Cw.gd_ge (by simp; omega)]
 have hout := div_outer hp d (F.m + 1) lw (by omega) (by omega) hl (F.m + 1 - d) g [] (by omega) hg (fun t h1 h2 => by omega) hst (Or.inl ⟨rfl, rfl, by
  show (if F.m + 1 - 1 < F.m then (F.f (F.m + 1 - 1)).toNat else if F.m + 1 - 1 = F.m then 1 else 0) = 1
  rw [if_neg (by omega), if_pos (by omega)]⟩)
 obtain ⟨E', g', a1, a2, a3, a4, a5, a6⟩ := hout;have hgl : ((ints (tab (F.m + 1) g)).length : Int) = ((F.m + 1 : Nat) : Int) := by rw [ints_length, tab_length]
 have hdl : ((ints (tab d lw)).length : Int) = (d : Int) := by rw [ints_length, tab_length]
 have hlen : (([] : List Int)).length + mod.length < 17592186044416 := by rw [hml]; show 0 + F.m < _; omega
 have hlen2 : (([] : List Int) ++ mod).length < 17592186044416 := by rw [List.nil_append, hml]; omega
 have hf : ∀ b, Ev (fun k => r4divides.l0 k (ints (tab d lw)) (F.p : Int) (d : Int) (ints (tab (F.m + 1) g)) (((d + (F.m + 1 - d) : Nat) : Int) - 1)) b → Ev (fun k => r4divides.f k (ints (tab d lw)) mod (F.p : Int)) b := by
  intro b hb;refine Ev.congr (fun k => ?_) hb;unfold r4divides.f
  show (if (([] : List Int)).length + mod.length < 17592186044416 then _ else _) = _
  rw [if_pos hlen];show (if (([] : List Int) ++ mod).length < 17592186044416 then _ else _) = _
  rw [if_pos hlen2];show r4divides.l0 k (ints (tab d lw)) (F.p : Int) ((ints (tab d lw)).length : Int) (mod ++ [1]) (wrap64 (((mod ++ [1]).length : Int) - 1)) = _
  rw [hgm, hgl, hdl, w64 (by omega) (by omega)];congr 2
  omega
 by_cases hz : ∀ t, t < F.m + 1 → g' t = 0
 ·refine Or.inl ⟨E', a3.congr (fun i => ?_), a4, ?_, hf _ ?_⟩
  ·rw [gd_zl', Cw.gd_nil];by_cases hi : i < F.m + 1
   ·rw [if_pos hi, hz i hi]; rfl
   rw [if_neg hi]
  ·rw [show F.m - d = F.m + 1 - 1 - d by omega]; exact a5
  rw [decide_eq_true hz] at a6; exact a6
 refine Or.inr ⟨fun E hE => hz ?_, hf _ ?_⟩
 ·have hll : (zl' F.p d lw).length = d := by simp [zl']
  have hu := rem_unique (by rw [hll]; exact hd) a3 hE (fun i hi => by
   rw [hll] at hi;rw [gd_zl'];by_cases hi2 : i < F.m + 1
   ·rw [if_pos hi2, a2 i hi hi2]; rfl
   rw [if_neg hi2])
  intro t ht;have h1 := hu t;rw [gd_zl', if_pos ht] at h1;have h2 := congrArg Cw.Zp.v h1;rw [Cw.zi_nat_v, Nat.mod_eq_of_lt (a1 t)] at h2;rw [h2];have h3 : (Cw.zi (((0 : Nat)) : Int) : Cw.Zp F.p).v = 0 % F.p := Cw.zi_nat_v 0;rw [Nat.zero_mod] at h3;exact h3
 rw [decide_eq_false hz] at a6; exact a6
end
end Go.Proofs.Ytlbddjojhcgpiaa.Pl
end
-- D4
section
namespace Go.Proofs.Ytlbddjojhcgpiaa.Pl
open Go.RowKit Go.Proofs.Ytlbddjojhcgpiaa.P Go.Proofs.Ytlbddjojhcgpiaa.Hand Go.Proofs.YtlbddjojhcgpiaaW.PrintWords
def btab (m : Nat) (f : Nat → Bool) : List Bool := (List.range m).map f
theorem btab_length (m : Nat) (f : Nat → Bool) : (btab m f).length = m := by simp [btab]
theorem btab_get {m : Nat} (f : Nat → Bool) (i : Nat) : (btab m f)[i]? = if i < m then some (f i) else none := by
 unfold btab
 by_cases h : i < m
 ·simp [h]
 simp [h]
theorem rd_btab {m : Nat} (f : Nat → Bool) {j : Nat} (h : j < m) : rdOf false (btab m f) (j : Int) = f j := by
 unfold rdOf
 rw [Int.toNat_natCast, List.getD_eq_getElem?_getD, btab_get, if_pos h]; rfl
theorem set_btab {m : Nat} (f g : Nat → Bool) {j : Nat} (h : j < m) (hg : ∀ i, i < m → g i = if i = j then true else f i) : (btab m f).set j true = btab m g := by
 apply List.ext_getElem?
 intro i;rw [List.getElem?_set, btab_get, btab_get, btab_length];by_cases hij : j = i
 ·rw [if_pos hij, if_pos h, if_pos (hij ▸ h), hg i (hij ▸ h), if_pos hij.symm]
 rw [if_neg hij];by_cases hi : i < m
 ·rw [if_pos hi, if_pos hi, hg i hi, if_neg (fun h => hij h.symm)]
 rw [if_neg hi, if_neg hi]
theorem ints_snoc_tab (n : Nat) (f : Nat → Nat) : ints (tab n f) ++ [(f n : Int)] = ints (tab (n + 1) f) := by
 unfold tab
 rw [List.range_succ, List.map_append, ints_append]; rfl
section
variable {F : Cw.RD} {mod : List Int}
open Classical in
noncomputable def seenB (X : Cw.El F) (i : Nat) (c : Nat) : Bool := decide (∃ t, t < i ∧ (Cw.pw X t).code = c)
theorem powers_loop (hF : Fits F mod) {x : Nat} (hx : x < F.p ^ F.m) : ∀ (d i : Nat), i + d = F.p ^ F.m → Cw.Apart (Cw.El.dec F x) i →
  ∃ n, Cw.Apart (Cw.El.dec F x) n ∧ ¬ Cw.Apart (Cw.El.dec F x) (n + 1) ∧
  Ev (fun k => field_powers.l0 k (x : Int) (ints (tab i (fun t => (Cw.pw (Cw.El.dec F x) t).code))) (btab (F.p ^ F.m) (seenB (Cw.El.dec F x) i)) ((Cw.pw (Cw.El.dec F x) i).code : Int) (F.p : Int) (F.m : Int) mod) (ints (tab n (fun t => (Cw.pw (Cw.El.dec F x) t).code))) := by
 intro d;have hq := hF.small;generalize hX : Cw.El.dec F x = X;induction d with
 | zero =>
  intro i hi ha;have := ha.le;have := Cw.q_pos F;omega
 | succ d ih =>
  intro i hi ha;have hil := ha.le;by_cases h0 : (Cw.pw X i).code = 0
  ·refine ⟨i, ha, Cw.Apart.not_succ (Or.inl (Cw.code_eq_zero.1 h0)), ?_⟩;refine Ev.step (f := fun _ => some _) (fun k => ?_) (Ev.now _);simp only [field_powers.l0];rw [if_pos (by rw [h0]; rfl)]
  have hc := (Cw.pw X i).code_lt;have hz : ¬ (((Cw.pw X i).code : Nat) : Int) = 0 := by omega
  have hl : ((btab (F.p ^ F.m) (seenB X i)).length : Int) = ((F.p ^ F.m : Nat) : Int) := by rw [btab_length]
  by_cases h1 : ∃ t, t < i ∧ (Cw.pw X t).code = (Cw.pw X i).code
  ·refine ⟨i, ha, Cw.Apart.not_succ (Or.inr ?_), ?_⟩
   ·obtain ⟨t, ht, e⟩ := h1;exact ⟨t, ht, Cw.El.code_inj e⟩
   refine Ev.step (f := fun _ => some _) (fun k => ?_) (Ev.now _);simp only [field_powers.l0];rw [if_neg hz, if_pos (Int.natCast_nonneg _), if_pos (by rw [hl]; omega), rd_btab _ hc, if_pos (show seenB X i (Cw.pw X i).code = true from decide_eq_true h1)]
  have ha' : Cw.Apart X (i + 1) := ha.succ (fun e => h0 (by rw [e, Cw.El.code_zero])) (fun j hj e => h1 ⟨j, hj, by rw [e]⟩);obtain ⟨n, hn1, hn2, hn3⟩ := ih (i + 1) (by omega) ha';refine ⟨n, hn1, hn2, ?_⟩;have hm := multiply_ev hF hc hx;rw [Cw.El.dec_code, hX, ← Cw.pw_succ] at hm;refine Ev.step (f := fun k => (field_multiply.f k (F.p : Int) (F.m : Int) mod ((Cw.pw X i).code : Int) (x : Int)).bind fun t114 => (field_powers.l0 k (x : Int) (ints (tab (i + 1) (fun t => (Cw.pw X t).code))) (btab (F.p ^ F.m) (seenB X (i + 1))) t114 (F.p : Int) (F.m : Int) mod)) (fun k => ?_) (Ev.bind hm hn3);have hlen : (ints (tab i (fun t => (Cw.pw X t).code))).length < 17592186044416 := by rw [ints_length, tab_length]; omega
  simp only [field_powers.l0]
  rw [if_neg hz, if_pos (Int.natCast_nonneg _), if_pos (by rw [hl]; omega), rd_btab _ hc, if_neg (by unfold seenB; rw [decide_eq_true_iff]; exact h1), if_pos hlen, ints_snoc_tab i (fun t => (Cw.pw X t).code), Int.toNat_natCast,
   set_btab (seenB X i) (seenB X (i + 1)) hc (fun c _ => by
    unfold seenB
    by_cases hcc : c = (Cw.pw X i).code
    ·rw [if_pos hcc]; exact decide_eq_true ⟨i, by omega, hcc.symm⟩
    rw [if_neg hcc];apply decide_eq_decide.2
    constructor
    ·rintro ⟨t, ht, e⟩;refine ⟨t, ?_, e⟩;by_cases hti : t = i
     ·rw [hti] at e; exact absurd e.symm hcc
     omega
    rintro ⟨t, ht, e⟩;exact ⟨t, by omega, e⟩)]
theorem powers_ev (hF : Fits F mod) {x : Nat} (hx : x < F.p ^ F.m) : ∃ n, Cw.Apart (Cw.El.dec F x) n ∧ ¬ Cw.Apart (Cw.El.dec F x) (n + 1) ∧
  Ev (fun k => field_powers.f k (F.p : Int) (F.m : Int) mod ((F.p ^ F.m : Nat) : Int) (x : Int)) (ints (tab n (fun t => (Cw.pw (Cw.El.dec F x) t).code))) := by
 have hq := hF.small;have hq2 := Cw.q_pos F;obtain ⟨n, h1, h2, h3⟩ := powers_loop hF hx (F.p ^ F.m - 1) 1 (by omega) (Cw.Apart.one _);refine ⟨n, h1, h2, Ev.congr (fun k => ?_) h3⟩
 have e1 : ints (tab 1 (fun t => (Cw.pw (Cw.El.dec F x) t).code)) = [1] := by
  show [(((Cw.pw (Cw.El.dec F x) 0).code : Nat) : Int)] = [1]
  rw [Cw.pw_zero, Cw.El.code_one]; rfl
 have e2 : ((Cw.pw (Cw.El.dec F x) 1).code : Int) = (x : Int) := by rw [Cw.pw_one, Cw.El.code_dec hx]
 have e3 : (List.replicate (F.p ^ F.m) false).set (1 : Int).toNat true = btab (F.p ^ F.m) (seenB (Cw.El.dec F x) 1) := by
  have : List.replicate (F.p ^ F.m) false = btab (F.p ^ F.m) (fun _ => false) := by
   unfold btab
   rw [List.map_const', List.length_range]
  rw [this];refine set_btab _ _ (j := 1) (by omega) (fun i _ => ?_);unfold seenB
  by_cases hi : i = 1
  ·rw [if_pos hi]; exact decide_eq_true ⟨0, by omega, by rw [Cw.pw_zero, Cw.El.code_one, hi]⟩
  rw [if_neg hi];apply decide_eq_false
  rintro ⟨t, ht, e⟩;rw [show t = 0 by omega, Cw.pw_zero, Cw.El.code_one] at e;exact hi e.symm
 unfold field_powers.f
 rw [if_pos (Int.natCast_nonneg _), Int.toNat_natCast, if_pos (by omega)];show (if 1 < ((List.replicate (F.p ^ F.m) false).length : Int) then _ else _) = _
 rw [if_pos (by rw [List.length_replicate]; omega), e1, e2, e3]
def genList (X : Cw.El F) : List Int := ints (tab (F.p ^ F.m - 1) (fun t => (Cw.pw X t).code))
theorem generator_loop (hF : Fits F mod) : ∀ (d x : Nat), x + d = F.p ^ F.m → (1 ≤ x) → 
  (∃ c, x ≤ c ∧ c < F.p ^ F.m ∧ Cw.Gens (Cw.El.dec F c) ∧ Ev (fun k => field_generator.l0 k ((F.p ^ F.m : Nat) : Int) (x : Int) (F.p : Int) (F.m : Int) mod) (genList (Cw.El.dec F c))) ∨
  ((∀ c, x ≤ c → c < F.p ^ F.m → ¬ Cw.Gens (Cw.El.dec F c)) ∧ Ev (fun k => field_generator.l0 k ((F.p ^ F.m : Nat) : Int) (x : Int) (F.p : Int) (F.m : Int) mod) []) := by
 intro d;have hq := hF.small;have hq2 := Cw.q_pos F;have w1 : wrap64 (((F.p ^ F.m : Nat) : Int) - 1) = ((F.p ^ F.m - 1 : Nat) : Int) := by rw [w64 (by omega) (by omega)]; omega
 have w2 : wrap64 (((F.p ^ F.m : Nat) : Int) - 2) = ((F.p ^ F.m - 2 : Nat) : Int) := by rw [w64 (by omega) (by omega)]; omega
 induction d with
 | zero =>
  intro x hx h1;refine Or.inr ⟨fun c h1 h2 => by omega, ?_⟩;refine Ev.step (f := fun _ => some _) (fun k => ?_) (Ev.now _);simp only [field_generator.l0];rw [if_neg (by omega)]
 | succ d ih =>
  intro x hx h1;have hxq : x < F.p ^ F.m := by omega
  have hw : wrap64 ((x : Int) + 1) = ((x + 1 : Nat) : Int) := by rw [w64 (by omega) (by omega)]; rfl
  obtain ⟨n, hn1, hn2, hn3⟩ := powers_ev hF hxq;have hlen : ((ints (tab n (fun t => (Cw.pw (Cw.El.dec F x) t).code))).length : Int) = (n : Int) := by rw [ints_length, tab_length]
  have hxi : ((x : Int) < ((F.p ^ F.m : Nat) : Int)) := by omega
  by_cases hnq : n = F.p ^ F.m - 1
  ·subst hnq;have hrd : rd (ints (tab (F.p ^ F.m - 1) (fun t => (Cw.pw (Cw.El.dec F x) t).code))) ((F.p ^ F.m - 2 : Nat) : Int) = ((Cw.pw (Cw.El.dec F x) (F.p ^ F.m - 2)).code : Int) := rd_tab _ (by omega);have hmu := multiply_ev hF ((Cw.pw (Cw.El.dec F x) (F.p ^ F.m - 2)).code_lt) hxq;rw [Cw.El.dec_code, ← Cw.pw_succ, show F.p ^ F.m - 2 + 1 = F.p ^ F.m - 1 by omega] at hmu
   have hst : ∀ r, Ev (fun k => (field_multiply.f k (F.p : Int) (F.m : Int) mod ((Cw.pw (Cw.El.dec F x) (F.p ^ F.m - 2)).code : Int) (x : Int)).bind fun t120 => (if t120 = 1 then (some (genList (Cw.El.dec F x))) else (field_generator.l0 k ((F.p ^ F.m : Nat) : Int) ((x + 1 : Nat) : Int) (F.p : Int) (F.m : Int) mod))) r →
     Ev (fun k => field_generator.l0 k ((F.p ^ F.m : Nat) : Int) (x : Int) (F.p : Int) (F.m : Int) mod) r := by
    intro r hr;refine Ev.step (fun k => by simp only [field_generator.l0]; rw [if_pos hxi]) (Ev.bind hn3 ?_);refine Ev.congr (fun k => ?_) hr;rw [w1, w2, hlen, if_pos rfl, if_pos (Int.natCast_nonneg _), if_pos (by omega), hrd, hw];rfl
   by_cases hg : (Cw.pw (Cw.El.dec F x) (F.p ^ F.m - 1)).code = 1
   ·refine Or.inl ⟨x, Nat.le_refl _, hxq, ⟨hn1, Cw.code_eq_one.1 hg⟩, hst _ (Ev.bind hmu ?_)⟩;refine Ev.congr (fun k => ?_) (Ev.now _);rw [if_pos (by rw [hg]; rfl)]
   have hng : ¬ Cw.Gens (Cw.El.dec F x) := fun h => hg (Cw.code_eq_one.2 h.2)
   have hst2 : ∀ r, Ev (fun k => field_generator.l0 k ((F.p ^ F.m : Nat) : Int) ((x + 1 : Nat) : Int) (F.p : Int) (F.m : Int) mod) r → Ev (fun k => field_generator.l0 k ((F.p ^ F.m : Nat) : Int) (x : Int) (F.p : Int) (F.m : Int) mod) r := by
    intro r hr;refine hst _ (Ev.bind hmu (Ev.congr (fun k => ?_) hr));rw [if_neg (by omega)]
   rcases ih (x + 1) (by omega) (by omega) with ⟨c, hc1, hc2, hc3, hc4⟩ | ⟨hc1, hc2⟩
   ·exact Or.inl ⟨c, by omega, hc2, hc3, hst2 _ hc4⟩
   refine Or.inr ⟨fun c hc hcq => ?_, hst2 _ hc2⟩;by_cases hcx : c = x
   ·rw [hcx]; exact hng
   exact hc1 c (by omega) hcq
  have hng : ¬ Cw.Gens (Cw.El.dec F x) := fun h => by
   have h1 := hn1.le;exact hn2 (h.1.mono (by omega))
  have hst2 : ∀ r, Ev (fun k => field_generator.l0 k ((F.p ^ F.m : Nat) : Int) ((x + 1 : Nat) : Int) (F.p : Int) (F.m : Int) mod) r → Ev (fun k => field_generator.l0 k ((F.p ^ F.m : Nat) : Int) (x : Int) (F.p : Int) (F.m : Int) mod) r := by
   intro r hr;refine Ev.step (fun k => by simp only [field_generator.l0]; rw [if_pos hxi]) (Ev.bind hn3 ?_);refine Ev.congr (fun k => ?_) hr;rw [w1, hlen, if_neg (by omega), hw]
  rcases ih (x + 1) (by omega) (by omega) with ⟨c, hc1, hc2, hc3, hc4⟩ | ⟨hc1, hc2⟩
  ·exact Or.inl ⟨c, by omega, hc2, hc3, hst2 _ hc4⟩
  refine Or.inr ⟨fun c hc hcq => ?_, hst2 _ hc2⟩;by_cases hcx : c = x
  ·rw [hcx]; exact hng
  exact hc1 c (by omega) hcq
theorem generator_field (hF : Fits F mod) [Cw.Irr F] : ∃ G : GFv, G.F = F ∧ G.mod = mod ∧ Ev (fun k => field_generator.f k (F.p : Int) (F.m : Int) mod ((F.p ^ F.m : Nat) : Int)) G.exp := by
 have hq2 := Cw.q_pos F;rcases generator_loop hF (F.p ^ F.m - 1) 1 (by omega) (Nat.le_refl _) with ⟨c, hc1, hc2, hc3, hc4⟩ | ⟨hc1, hc2⟩
 ·exact ⟨⟨F, inferInstance, mod, Cw.El.dec F c, hc3.ord, hF.small, hF.coef, hF.mod1, hF.modm⟩, rfl, rfl, Ev.congr (fun k => rfl) (by
   have e : genList (Cw.El.dec F c) = (List.range (F.p ^ F.m - 1)).map (fun i => (((Cw.pw (Cw.El.dec F c) i).code : Nat) : Int)) := by
    unfold genList tab ints; rw [List.map_map]; rfl
   rw [e] at hc4;exact hc4)⟩
 obtain ⟨X, hX⟩ := Cw.gens_ex (F := F)
 have := hc1 X.code (by
  have h1 : X.code ≠ 0 := fun e => Cw.gens_ne hX (Cw.code_eq_zero.1 e)
  omega) X.code_lt
 rw [Cw.El.dec_code] at this;exact absurd hX this
theorem generator_none (hF : Fits F mod) (h : ¬ Cw.Dom (Cw.El F)) : Ev (fun k => field_generator.f k (F.p : Int) (F.m : Int) mod ((F.p ^ F.m : Nat) : Int)) [] := by
 have hq2 := Cw.q_pos F;rcases generator_loop hF (F.p ^ F.m - 1) 1 (by omega) (Nat.le_refl _) with ⟨c, hc1, hc2, hc3, hc4⟩ | ⟨hc1, hc2⟩
 ·exact absurd hc3.dom h
 exact hc2
end
end Go.Proofs.Ytlbddjojhcgpiaa.Pl
end
-- D6
section
namespace Go.Proofs.Ytlbddjojhcgpiaa.Pl
open Go.RowKit Go.Proofs.Ytlbddjojhcgpiaa.P Go.Proofs.Ytlbddjojhcgpiaa.Hand Go.Proofs.YtlbddjojhcgpiaaW.PrintWords
section
variable {F : Cw.RD} {mod : List Int}
def lwv (p d v : Nat) (t : Nat) : Nat := (Cw.dg p d v).getD t 0
theorem lwv_lt {p : Nat} (hp : 0 < p) (d v t : Nat) : lwv p d v t < p := by
 unfold lwv
 rw [List.getD_eq_getElem?_getD];by_cases h : t < (Cw.dg p d v).length
 ·rw [List.getElem?_eq_getElem h];exact Cw.dg_lt hp d v _ (List.getElem_mem h)
 rw [List.getElem?_eq_none (by omega)];exact hp
theorem lwv_tab (p d v : Nat) : tab d (lwv p d v) = Cw.dg p d v := by
 apply List.ext_getElem?
 intro i;by_cases h : i < d
 ·rw [tab_get _ h];unfold lwv
  rw [List.getD_eq_getElem?_getD, List.getElem?_eq_getElem (by rw [Cw.dg_length]; exact h)]; rfl
 rw [tab_ge _ (by omega), List.getElem?_eq_none (by rw [Cw.dg_length]; omega)]
theorem low_v (low : List (Cw.Zp F.p)) : ∃ v, v < F.p ^ low.length ∧ Cw.El.zl' F.p low.length (lwv F.p low.length v) = low := by
 have hl : ∀ a, a ∈ low.map Cw.Zp.v → a < F.p := by
  intro a ha;obtain ⟨b, _, rfl⟩ := List.mem_map.1 ha;exact b.lt
 refine ⟨Cw.cd F.p (low.map Cw.Zp.v), by have := Cw.cd_lt _ hl; rwa [List.length_map] at this, ?_⟩;have h1 := Cw.dg_cd _ hl;rw [List.length_map] at h1;apply List.ext_getElem?
 intro i;unfold Cw.El.zl'
 by_cases h : i < low.length
 ·rw [List.getElem?_map, List.getElem?_range h, List.getElem?_eq_getElem h];show some _ = some _
  congr 1
  unfold lwv
  rw [h1];show Cw.zi (((List.map Cw.Zp.v low).getD i 0 : Nat) : Int) = low[i]
  rw [List.getD_eq_getElem?_getD, List.getElem?_map, List.getElem?_eq_getElem h];exact Cw.zi_of _
 rw [List.getElem?_eq_none (by simp; omega), List.getElem?_eq_none (by omega)]
def Free (F : Cw.RD) (d v : Nat) : Prop := ∀ d' v', 1 ≤ d' → d' < d ∨ d' = d ∧ v' < v → v' < F.p ^ d' → 2 * d' ≤ F.m → ∀ E, ¬ Cw.DivRel (Cw.El.md F) (Cw.El.zl' F.p d' (lwv F.p d' v') ++ [1]) E []
theorem Free.dom {d : Nat} (h : Free F d 0) (hd : F.m < 2 * d) : Cw.Dom (Cw.El F) := by
 refine Cw.El.dom_of_irr (fun low E h1 h2 hE => ?_);obtain ⟨v, hv, e⟩ := low_v low;exact h low.length v h1 (Or.inl (by omega)) hv h2 E (by rw [e]; exact hE)
theorem dom_one (h : F.m = 1) : Cw.Dom (Cw.El F) := Cw.El.dom_of_irr (fun low E h1 h2 _ => by omega)
open Classical in
theorem irr_inner (hF : Fits F mod) (hm : F.m ≠ 1) (d : Nat) (hd : 1 ≤ d) (h2d : 2 * d ≤ F.m)
  (H : Free F (d + 1) 0 → Ev (fun k => r4irreducible.l0 k mod (F.p : Int) ((F.p ^ d : Nat) : Int) ((d + 1 : Nat) : Int)) (decide (Cw.Dom (Cw.El F)))) : ∀ e v, v + e = F.p ^ d → Free F d v →
  Ev (fun k => r4irreducible.l1 k mod (F.p : Int) ((F.p ^ d : Nat) : Int) (d : Int) (v : Int)) (decide (Cw.Dom (Cw.El F))) := by
 intro e;have hp := hF.p_le;have hp2 := F.prm.1;have hm8 := hF.m_le;have hs := hF.small;have hpd : F.p ^ d ≤ F.p ^ F.m := Nat.pow_le_pow_right (by omega) (by omega);have hd1 : wrap64 ((d : Int) + 1) = ((d + 1 : Nat) : Int) := by rw [w64 (by omega) (by omega)]; rfl
 induction e with
 | zero =>
  intro v hv hf;refine Ev.step (fun k => ?_) (H (fun d' v' h1 h2 h3 h4 E => ?_))
  ·simp only [r4irreducible.l1];rw [if_neg (by omega), hd1]
  by_cases hdd : d' = d
  ·subst hdd;exact hf d' v' h1 (Or.inr ⟨rfl, by omega⟩) h3 h4 E
  exact hf d' v' h1 (Or.inl (by omega)) h3 h4 E
 | succ e ih =>
  intro v hv hf;have hvp : v < F.p ^ d := by omega
  have hvi : (v : Int) < ((F.p ^ d : Nat) : Int) := by omega
  have hv1 : wrap64 ((v : Int) + 1) = ((v + 1 : Nat) : Int) := by rw [w64 (by omega) (by omega)]; rfl
  have hdig := digits04_ev v F.p d (by omega) (by omega) (by omega);rw [← lwv_tab] at hdig;rcases divides_ev hF hm d (lwv F.p d v) hd (by omega) (lwv_lt (by omega) d v) with ⟨E, hE, hE1, hE2, hev⟩ | ⟨hE, hev⟩
  ·have hnd : ¬ Cw.Dom (Cw.El F) := fun hdom => by
    have hll : (Cw.El.zl' F.p d (lwv F.p d v)).length = d := by simp [Cw.El.zl']
    obtain ⟨x, y, _, _, h1, h2, h3⟩ := Cw.El.div_not_dom (by rw [hll]; exact hd) (by rw [hll]; omega) hE (by rw [hll]; exact hE1) (by rw [hll]; exact hE2);rcases hdom x y h1 with h | h
    ·exact h2 h
    exact h3 h
   rw [decide_eq_false hnd];refine Ev.step (fun k => by simp only [r4irreducible.l1]; rw [if_pos hvi]) (Ev.bind hdig (Ev.bind hev ?_));exact Ev.congr (fun k => if_pos rfl) (Ev.now _)
  refine Ev.step (fun k => by simp only [r4irreducible.l1]; rw [if_pos hvi]) (Ev.bind hdig (Ev.bind hev ?_));refine Ev.congr (fun k => ?_) (ih (v + 1) (by omega) (fun d' v' h1 h2 h3 h4 E => ?_))
  ·rw [if_neg (by decide), hv1]
  by_cases hdd : d' = d ∧ v' = v
  ·obtain ⟨rfl, rfl⟩ := hdd;exact hE E
  exact hf d' v' h1 (by omega) h3 h4 E
open Classical in
theorem irr_outer (hF : Fits F mod) (hm : F.m ≠ 1) : ∀ e d, d + e = 5 → 1 ≤ d → d ≤ F.m → Free F d 0 →
  Ev (fun k => r4irreducible.l0 k mod (F.p : Int) ((F.p ^ (d - 1) : Nat) : Int) (d : Int)) (decide (Cw.Dom (Cw.El F))) := by
 intro e;have hp := hF.p_le;have hp2 := F.prm.1;have hm8 := hF.m_le;have hs := hF.small;have hml := (hF.modm hm).1
 have stop : ∀ d, F.m < 2 * d → d ≤ 8 → Free F d 0 → Ev (fun k => r4irreducible.l0 k mod (F.p : Int) ((F.p ^ (d - 1) : Nat) : Int) (d : Int)) (decide (Cw.Dom (Cw.El F))) := by
  intro d hd hd8 hf;rw [decide_eq_true (hf.dom hd)];refine Ev.step (f := fun _ => some _) (fun k => ?_) (Ev.now _);simp only [r4irreducible.l0];rw [w64 (by omega) (by omega), if_neg (by omega)]
 induction e with
 | zero =>
  intro d hd h1 hdm hf;exact stop d (by omega) (by omega) hf
 | succ e ih =>
  intro d hd h1 hdm hf;by_cases hc : F.m < 2 * d
  ·exact stop d hc (by omega) hf
  have hpd : F.p ^ d ≤ F.p ^ F.m := Nat.pow_le_pow_right (by omega) (by omega)
  have hin := irr_inner hF hm d h1 (by omega) (fun hf' => by
   have := ih (d + 1) (by omega) (by omega) (by omega) hf';rw [show d + 1 - 1 = d by omega] at this;exact this) (F.p ^ d) 0 (by omega) hf
  refine Ev.step (fun k => ?_) hin
  have hmul : wrap64 (((F.p ^ (d - 1) : Nat) : Int) * (F.p : Int)) = ((F.p ^ d : Nat) : Int) := by
   rw [← Int.natCast_mul, ← Nat.pow_succ, show (d - 1).succ = d by omega, w64n _ (by omega)]
  simp only [r4irreducible.l0];rw [w64 (n := 2 * (d : Int)) (by omega) (by omega), if_pos (by omega), hmul];rfl
open Classical in
theorem irreducible_ev (hF : Fits F mod) (hm : F.m ≠ 1) : Ev (fun k => r4irreducible.f k mod (F.p : Int)) (decide (Cw.Dom (Cw.El F))) := by
 have h := irr_outer hF hm 4 1 (by omega) (by omega) F.mpos (fun d' v' h1 h2 h3 h4 E => by omega);rw [Nat.sub_self, Nat.pow_zero] at h;exact h
end
def Shape (P M : Int) (mod : List Int) : Prop := ordV P M ≠ 0 ∧ Cw.Prm P.toNat ∧ (M = 1 ∧ mod = [] ∨ M ≠ 1 ∧ (mod.length : Int) = M ∧ ∀ i, i < mod.length → 0 ≤ mod.getD i 0 ∧ mod.getD i 0 < P)
theorem shape_fits {P M : Int} {mod : List Int} (h : Shape P M mod) : ∃ F : Cw.RD, Fits F mod ∧ (F.p : Int) = P ∧ (F.m : Int) = M := by
 obtain ⟨h1, h2, h3⟩ := h;obtain ⟨p, m, rfl, rfl, hp1, hp2, hm1, hm2, hq, _⟩ := ordV_pos h1;rw [Int.toNat_natCast] at h2;rcases h3 with ⟨h3, rfl⟩ | ⟨h3, h4, h5⟩
 ·refine ⟨⟨p, m, h2, by omega, fun _ => 0⟩, ⟨hq, fun i => ?_, fun _ => ⟨rfl, rfl⟩, fun h => ?_⟩, rfl, rfl⟩
  ·show (0 : Int) ≤ 0 ∧ (0 : Int) < (p : Int)
   omega
  exact absurd (by omega : m = 1) h
 refine ⟨⟨p, m, h2, by omega, fun i => mod.getD i 0⟩, ⟨hq, fun i => ?_, fun h => ?_, fun h => ⟨?_, fun i hi => rfl⟩⟩, rfl, rfl⟩
 ·show 0 ≤ mod.getD i 0 ∧ mod.getD i 0 < (p : Int)
  by_cases hi : i < mod.length
  ·exact h5 i hi
  rw [List.getD_eq_getElem?_getD, List.getElem?_eq_none (by omega)];show (0 : Int) ≤ 0 ∧ (0 : Int) < (p : Int)
  omega
 ·exact absurd (show m = 1 from h) (by omega)
 show mod.length = m
 omega
theorem fits_ord {F : Cw.RD} {mod : List Int} (h : Fits F mod) : ordV (F.p : Int) (F.m : Int) = ((F.p ^ F.m : Nat) : Int) := by
 have hp2 := F.prm.1;have hm := F.mpos;have hm8 := h.m_le;have hs := h.small;unfold ordV
 rw [Int.toNat_natCast, Int.toNat_natCast, if_pos ⟨by omega, by omega, by omega, hs⟩]
theorem range_loop (P M : Int) (mod : List Int) (hml : (mod.length : Int) = M) (hm8 : M ≤ 8) : ∀ e i, i + e = mod.length → (∀ t, t < i → 0 ≤ mod.getD t 0 ∧ mod.getD t 0 < P) →
  ((∀ t, t < mod.length → 0 ≤ mod.getD t 0 ∧ mod.getD t 0 < P) ∧ Ev (fun k => field_shape.l0 k mod (mod.length : Int) (i : Int) P M mod) true ∧ (∀ b, Ev (fun k => r4Check.l0 k (mod.length : Int) P M mod) b → Ev (fun k => r4Check.l0 k (i : Int) P M mod) b)) ∨
  ((¬ ∀ t, t < mod.length → 0 ≤ mod.getD t 0 ∧ mod.getD t 0 < P) ∧ Ev (fun k => field_shape.l0 k mod (mod.length : Int) (i : Int) P M mod) false ∧ Ev (fun k => r4Check.l0 k (i : Int) P M mod) 1) := by
 intro e;induction e with
 | zero =>
  intro i hi h;obtain rfl : i = mod.length := by omega
  refine Or.inl ⟨h, ?_, fun b hb => hb⟩;refine Ev.step (f := fun _ => some _) (fun k => ?_) (Ev.now _);simp only [field_shape.l0];rw [if_neg (by omega)]
 | succ e ih =>
  intro i hi h;have hil : (i : Int) < (mod.length : Int) := by omega
  have hi0 : (0 : Int) ≤ (i : Int) := by omega
  have hi1 : wrap64 ((i : Int) + 1) = ((i + 1 : Nat) : Int) := by rw [w64 (by omega) (by omega)]; rfl
  have hr : rd mod (i : Int) = mod.getD i 0 := by unfold rd; rw [Int.toNat_natCast]
  have hiM : (i : Int) < M := by omega
  by_cases h1 : mod.getD i 0 < 0
  ·refine Or.inr ⟨fun hh => by have := (hh i (by omega)).1; omega, ?_, ?_⟩
   ·refine Ev.step (f := fun _ => some _) (fun k => ?_) (Ev.now _);simp only [field_shape.l0];rw [if_pos hil, if_pos hi0, if_pos hil, hr, if_pos h1]
   refine Ev.step (f := fun _ => some _) (fun k => ?_) (Ev.now _);simp only [r4Check.l0];rw [if_pos hiM, if_pos hi0, if_pos hil, hr, if_pos h1]
  by_cases h2 : mod.getD i 0 ≥ P
  ·refine Or.inr ⟨fun hh => by have := (hh i (by omega)).2; omega, ?_, ?_⟩
   ·refine Ev.step (f := fun _ => some _) (fun k => ?_) (Ev.now _);simp only [field_shape.l0];rw [if_pos hil, if_pos hi0, if_pos hil, hr, if_neg h1, if_pos h2]
   refine Ev.step (f := fun _ => some _) (fun k => ?_) (Ev.now _);simp only [r4Check.l0];rw [if_pos hiM, if_pos hi0, if_pos hil, hr, if_neg h1, if_pos h2]
  have s1 : ∀ b, Ev (fun k => field_shape.l0 k mod (mod.length : Int) ((i + 1 : Nat) : Int) P M mod) b → Ev (fun k => field_shape.l0 k mod (mod.length : Int) (i : Int) P M mod) b := fun b hb => by
   refine Ev.step (fun k => ?_) hb;simp only [field_shape.l0];rw [if_pos hil, if_pos hi0, if_pos hil, hr, if_neg h1, if_neg h2, hi1]
  have s2 : ∀ b, Ev (fun k => r4Check.l0 k ((i + 1 : Nat) : Int) P M mod) b → Ev (fun k => r4Check.l0 k (i : Int) P M mod) b := fun b hb => by
   refine Ev.step (fun k => ?_) hb;simp only [r4Check.l0];rw [if_pos hiM, if_pos hi0, if_pos hil, hr, if_neg h1, if_neg h2, hi1]
  rcases ih (i + 1) (by omega) (fun t ht => by
   by_cases hti : t = i
   ·rw [hti]; omega
   exact h t (by omega)) with ⟨a1, a2, a3⟩ | ⟨a1, a2, a3⟩
  ·exact Or.inl ⟨a1, s1 _ a2, fun b hb => s2 _ (a3 b hb)⟩
  exact Or.inr ⟨a1, s1 _ a2, s2 _ a3⟩
open Classical in
theorem shape_check (P M : Int) (mod : List Int) (hP : P < 9223372036854775808) :
  (¬ Shape P M mod ∧ Ev (fun k => field_shape.f k P M mod) false ∧ Ev (fun k => r4Check.f k P M mod) 1) ∨
  (∃ F : Cw.RD, Fits F mod ∧ (F.p : Int) = P ∧ (F.m : Int) = M ∧ Ev (fun k => field_shape.f k P M mod) true ∧ Ev (fun k => r4Check.f k P M mod) (if Cw.Dom (Cw.El F) then 0 else 1)) := by
 have ho := order_ev P M;have ho4 := order04_ev P M mod hP;by_cases h1 : ordV P M = 0
 ·refine Or.inl ⟨fun h => h.1 h1, ?_, ?_⟩
  ·rw [h1] at ho;refine Ev.bind ho (Ev.congr (fun k => if_pos rfl) (Ev.step (f := fun _ => some _) (fun k => ?_) (Ev.now _)));simp only [field_shape.j0]; rfl
  rw [h1] at ho4;refine Ev.bind ho4 (Ev.congr (fun k => if_pos rfl) (Ev.step (f := fun _ => some _) (fun k => ?_) (Ev.now _)));simp only [r4Check.j0]; rfl
 obtain ⟨p, m, rfl, rfl, hp1, hp2, hm1, hm2, hq, hov⟩ := ordV_pos h1;have ip := isPrime_ev p (by omega) hp1;have ip4 := prime04_ev p (by omega) hp1;have s1 : ∀ b, Ev (fun k => field_shape.j0 k (!decide (Cw.Prm p)) (p : Int) (m : Int) mod) b → Ev (fun k => field_shape.f k (p : Int) (m : Int) mod) b := fun b hb => Ev.bind ho (Ev.congr (fun k => if_neg h1) (Ev.bind ip hb))
 have s2 : ∀ b, Ev (fun k => r4Check.j0 k (!decide (Cw.Prm p)) (p : Int) (m : Int) mod) b → Ev (fun k => r4Check.f k (p : Int) (m : Int) mod) b := fun b hb => Ev.bind ho4 (Ev.congr (fun k => if_neg h1) (Ev.bind ip4 hb))
 by_cases hpr : Cw.Prm p
 ·rw [decide_eq_true hpr] at s1 s2;by_cases hm : m = 1
  ·by_cases hl : mod = []
   ·have hS : Shape (p : Int) (m : Int) mod := ⟨h1, by rw [Int.toNat_natCast]; exact hpr, Or.inl ⟨by omega, hl⟩⟩;obtain ⟨F, hF, e1, e2⟩ := shape_fits hS;refine Or.inr ⟨F, hF, e1, e2, s1 _ ?_, s2 _ ?_⟩
    ·refine Ev.step (f := fun _ => some _) (fun k => ?_) (Ev.now _);simp only [field_shape.j0];rw [if_neg (by decide), if_pos (by omega), hl]; rfl
    rw [if_pos (dom_one (by omega))];refine Ev.step (f := fun _ => some _) (fun k => ?_) (Ev.now _);simp only [r4Check.j0];rw [if_neg (by decide), if_pos (by omega), hl]; rfl
   have hl0 : ¬ (mod.length : Int) = 0 := fun h => hl (List.length_eq_zero_iff.1 (by omega))
   refine Or.inl ⟨fun h => ?_, s1 _ ?_, s2 _ ?_⟩
   ·rcases h.2.2 with h | h
    ·exact hl h.2
    exact h.1 (by omega)
   ·refine Ev.step (f := fun _ => some _) (fun k => ?_) (Ev.now _);simp only [field_shape.j0];rw [if_neg (by decide), if_pos (by omega)];congr 1
    exact beq_eq_false_iff_ne.2 hl0
   refine Ev.step (f := fun _ => some _) (fun k => ?_) (Ev.now _);simp only [r4Check.j0];rw [if_neg (by decide), if_pos (by omega), if_neg hl0]
  have hmi : ¬ (m : Int) = 1 := by omega
  by_cases hl : (mod.length : Int) = (m : Int)
  ·have t1 : ∀ b, Ev (fun k => field_shape.l0 k mod (mod.length : Int) 0 (p : Int) (m : Int) mod) b → Ev (fun k => field_shape.f k (p : Int) (m : Int) mod) b := fun b hb => s1 _ (Ev.step (fun k => by
    simp only [field_shape.j0];rw [if_neg (by decide), if_neg hmi, if_pos hl]) hb)
   have t2 : ∀ b, Ev (fun k => r4Check.l0 k 0 (p : Int) (m : Int) mod) b → Ev (fun k => r4Check.f k (p : Int) (m : Int) mod) b := fun b hb => s2 _ (Ev.step (fun k => by
    simp only [r4Check.j0];rw [if_neg (by decide), if_neg hmi, if_pos hl]) hb)
   rcases range_loop (p : Int) (m : Int) mod hl (by omega) mod.length 0 (by omega) (fun t ht => by omega) with ⟨a1, a2, a3⟩ | ⟨a1, a2, a3⟩
   ·have hS : Shape (p : Int) (m : Int) mod := ⟨h1, by rw [Int.toNat_natCast]; exact hpr, Or.inr ⟨hmi, hl, a1⟩⟩;obtain ⟨F, hF, e1, e2⟩ := shape_fits hS;refine Or.inr ⟨F, hF, e1, e2, t1 _ a2, t2 _ (a3 _ ?_)⟩;have hirr := irreducible_ev hF (by omega);rw [e1] at hirr;refine Ev.step (fun k => by simp only [r4Check.l0]; rw [if_neg (by omega)]) (Ev.bind hirr ?_);refine Ev.congr (fun k => ?_) (Ev.now _);by_cases hd : Cw.Dom (Cw.El F)
    ·rw [decide_eq_true hd, if_pos rfl, if_pos hd]
    rw [decide_eq_false hd, if_neg (by decide), if_neg hd]
   refine Or.inl ⟨fun h => ?_, t1 _ a2, t2 _ a3⟩;rcases h.2.2 with h | h
   ·exact hmi h.1
   exact a1 h.2.2
  refine Or.inl ⟨fun h => ?_, s1 _ ?_, s2 _ ?_⟩
  ·rcases h.2.2 with h | h
   ·exact hmi h.1
   exact hl h.2.1
  ·refine Ev.step (f := fun _ => some _) (fun k => ?_) (Ev.now _);simp only [field_shape.j0];rw [if_neg (by decide), if_neg hmi, if_neg hl]
  refine Ev.step (f := fun _ => some _) (fun k => ?_) (Ev.now _);simp only [r4Check.j0];rw [if_neg (by decide), if_neg hmi, if_neg hl]
 rw [decide_eq_false hpr] at s1 s2;refine Or.inl ⟨fun h => hpr (by have := h.2.1; rwa [Int.toNat_natCast] at this), s1 _ ?_, s2 _ ?_⟩
 ·refine Ev.step (f := fun _ => some _) (fun k => ?_) (Ev.now _);simp only [field_shape.j0]; rfl
 refine Ev.step (f := fun _ => some _) (fun k => ?_) (Ev.now _);simp only [r4Check.j0]; rfl
end Go.Proofs.Ytlbddjojhcgpiaa.Pl
end
-- Pb3
section
namespace Go.Proofs.Ytlbddjojhcgpiaa.P
noncomputable section
open Go.RowKit Go.Proofs.Ytlbddjojhcgpiaa.Hand Go.Proofs.YtlbddjojhcgpiaaW.PrintWords Go.Proofs.YtlbddjojhcgpiaaW.PrintLast Go.Proofs.YtlbddjojhcgpiaaW.PrintMore
set_option linter.unusedVariables false
set_option linter.unusedSimpArgs false
mutual
def tower_system.l0 : Nat → GFv → List Int → Int → List Int → List (List Int) → Int → Int → Option ((List (List Int)))
 | 0, _, _, _, _, _, _, _ => none
 | k + 1, x0, x1, x2, x3, x9, x19, x20 => if x20 < x19 then (if 0 ≤ (wrap64 ((x1.length : Int) + 1)) then (if (wrap64 ((x1.length : Int) + 1) : Int).toNat ≤ 35184372088832 then (if 0 ≤ x20 then (if x20 < (x9.length : Int) then ((some (x9.set (x20 : Int).toNat (List.replicate (wrap64 ((x1.length : Int) + 1) : Int).toNat 0) : List (List Int))).bind fun y177 => (if x20 < (x3.length : Int) then (if 0 ≤ (x1.length : Int) then (if (x1.length : Int) < ((rd_L2 y177 x20).length : Int) then (tower_system.l0 k x0 x1 x2 x3 (y177.set (x20 : Int).toNat ((rd_L2 y177 x20).set ((x1.length : Int) : Int).toNat (rd x3 x20))) x19 (wrap64 (x20 + 1))) else (none)) else (none)) else (none))) else (none)) else (none)) else (none)) else (none)) else (tower_system.l1 k x0 x2 x9 x1 (x1.length : Int) 0)
def tower_system.l1 : Nat → GFv → Int → List (List Int) → List Int → Int → Int → Option ((List (List Int)))
 | 0, _, _, _, _, _, _ => none
 | k + 1, x0, x2, x9, x42, x43, x44 => if x44 < x43 then (if 0 ≤ x44 then (if x44 < (x42.length : Int) then ((tower_each.f k x0 (rd x42 x44) x2).bind fun t184 => (tower_system.l2 k x0 x2 x9 x44 x42 x43 x44 t184 (t184.length : Int) 0)) else (none)) else (none)) else (some x9)
def tower_system.l2 : Nat → GFv → Int → List (List Int) → Int → List Int → Int → Int → List Int → Int → Int → Option ((List (List Int)))
 | 0, _, _, _, _, _, _, _, _, _, _ => none
 | k + 1, x0, x2, x9, x11, x42, x43, x44, x52, x53, x54 => if x54 < x53 then (if 0 ≤ x54 then (if x54 < (x52.length : Int) then (if x54 < (x9.length : Int) then (if 0 ≤ x11 then (if x11 < ((rd_L2 x9 x54).length : Int) then (tower_system.l2 k x0 x2 (x9.set (x54 : Int).toNat ((rd_L2 x9 x54).set (x11 : Int).toNat (rd x52 x54))) x11 x42 x43 x44 x52 x53 (wrap64 (x54 + 1))) else (none)) else (none)) else (none)) else (none)) else (none)) else (tower_system.l1 k x0 x2 x9 x42 x43 (wrap64 (x44 + 1)))
end
def tower_system.f (k : Nat) (a0 : GFv) (l1 : List Int) (a2 : Int) (l3 : List Int) : Option ((List (List Int))) := if 0 ≤ (l3.length : Int) then (if ((l3.length : Int) : Int).toNat ≤ 11728124029610 then ((some (List.replicate ((l3.length : Int) : Int).toNat [] : List (List Int))).bind fun y171 => (tower_system.l0 k a0 l1 a2 l3 y171 (y171.length : Int) 0)) else (none)) else (none)
def tower_system.T6 : Bool × List (List Nat × List Nat) := (true, [([], []), ([], []), ([0, 1], [0, 1]), ([2], [2]), ([], []), ([4], [4]), ([], []), ([], []), ([6, 7], [6, 7]), ([8], [8]), ([3, 5, 0, 1, 2, 3, 4, 5, 6, 7, 8, 9], [3, 5]), ([10, 9, 0, 1, 2, 3, 4, 5, 6, 7, 8, 9], [9, 10])])
def tower_system.B6 : List Nat := [0, 0, 3, 7, 0, 16, 0, 0, 192, 448, 1023, 2047]
theorem tower_system.tab6 : rtab .any (opsOf Try.f41 6) = tower_system.T6 := by kernel_rfl
theorem tower_system.bits6 : waitsOk tower_system.T6.2 tower_system.B6 = true := by kernel_rfl
theorem tower_system.calls (k : Nat) (b_a0 : Nat) (a0 : GFv) (A1 : Option Addr) (c1 : Nat) (l1 : List Int) (a2 : Int) (A3 : Option Addr) (c3 : Nat) (l3 : List Int) (r : List (List Int)) (w : World) (hg0 : GFok w b_a0 a0) (hr1 : Kd.C (Kd.int .i64) w A1 l1.length l1) (hc1 : l1.length ≤ c1) (hr3 : Kd.C (Kd.int .i64) w A3 l3.length l3) (hc3 : l3.length ≤ c3) (h : tower_system.f k a0 l1 a2 l3 = some r) :
  Calls Try.prog 41 #[.pointer (some ⟨b_a0, 0, none⟩), .slice A1 l1.length c1, .int .i64 a2, .slice A3 l3.length c3] w fun e w' => ∃ v0_ : Value, e = .returned (v0_) ∧ Kd.S (Kd.slice 3 (Kd.int .i64)) 22 w' w.heap.size (fun _ => True) v0_ r ∧ Below w.heap.size w w' := by
 have HG_a0 := Q9a.mk hg0;clear hg0;have HR1 := Q9a.mk hr1;have HC1 := Q9a.mk hc1;clear hr1 hc1;have HR3 := Q9a.mk hr3;have HC3 := Q9a.mk hc3;clear hr3 hc3;have HB := Q9a.mk (Below.refl w.heap.size w);have H : (if 0 ≤ (l3.length : Int) then (if ((l3.length : Int) : Int).toNat ≤ 11728124029610 then ((some (List.replicate ((l3.length : Int) : Int).toNat [] : List (List Int))).bind fun y171 => (tower_system.l0 k a0 l1 a2 l3 y171 (y171.length : Int) 0)) else (none)) else (none)) = some r := h;clear h;by_cases c5 : 0 ≤ (l3.length : Int)
 ·rw [if_pos c5] at H;have c5b0 := eq_true c5;have c5b1 : decide (0 ≤ (l3.length : Int)) = true := decide_eq_true c5;clear c5;by_cases c6 : ((l3.length : Int) : Int).toNat ≤ 11728124029610
  ·rw [if_pos c6] at H;have c6b0 := eq_true c6;have c6b1 : decide (((l3.length : Int) : Int).toNat ≤ 11728124029610) = true := decide_eq_true c6;clear c6;obtain ⟨y171, hy171⟩ : ∃ y_ : List (List Int), y_ = (List.replicate ((l3.length : Int) : Int).toNat []) := ⟨_, rfl⟩;replace H : (tower_system.l0 k a0 l1 a2 l3 y171 (y171.length : Int) 0) = some r := by first | (rw [hy171]; with_reducible exact H) | (have H2_ := (Option.bind_some _ _).symm.trans H; rw [hy171]; with_reducible exact H2_) | (have H2_ := (Option.bind_some _ _).symm.trans H; with_reducible exact H2_) | with_reducible exact H | (rw [hy171]; exact H) | exact H
   have Ny171 := Q9a.mk hy171;clear hy171;have H' := Q9a.mk H;clear H;go_enter Try.func41, Try.ntmps41
   go_wp2_with (first | ((with_reducible refine gD (N := 17) rfl ?_); refine Kd.S_make (Kd.slice 3 (Kd.int .i64)) _ 22 rfl (N := 17) rfl 64 _ _ rfl (l3.length : Int) rfl rfl Try.underlying64 (.slice none 0 0) 24 info22 rfl (by decide) (by omega) [] (ok := fun _ => True) (okp := fun _ => True) ⟨_, rfl, Kd.R_nil _ _ _ _ _⟩ (fun _ hk => hk) trivial (of_decide_eq_true (by first | (with_reducible assumption) | assumption)) (Nat.le_trans (Nat.mul_le_mul_right _ (of_decide_eq_true (by first | (with_reducible assumption) | assumption) : (l3.length : Int).toNat ≤ 11728124029610)) (by omega)) (Below.refl _ _) (Nat.le_refl _) ?_; intro v172 w7 ho8 hb hg_ hnew_; clear hg_ hnew_; (first | rw [← Ny171.out] at ho8 | (simp only [Int.reduceToNat] at ho8; rw [← Ny171.out] at ho8)); have n0_ := Q9a.mk (Kd.S_lower ho8 (bZ (bI HB.out))); have n1_ := Q9a.mk (bP (bI HB.out) hb); clear HB; have HO173 := n0_; have HB := n1_; clear n0_ n1_; clear hb ho8; obtain ⟨Ao9, co9, eo9⟩ := Kd.S_slice HO173.out; subst eo9))
   go_loopg [20] k (fun kq v20 w' => ∃ (x9_1 : List (List Int)) (x20_1 : Int), v20 = .int .i64 x20_1 ∧ Q9a (tower_system.l0 kq a0 l1 a2 l3 x9_1 (y171.length : Int) x20_1 = some r) ∧ Q9a (kq ≤ k) ∧ Q9a (Kd.S (Kd.slice 3 (Kd.int .i64)) 22 w' w.heap.size (fun _ => True) (.slice Ao9 y171.length co9) x9_1) ∧ Q9a (Below w.heap.size w w'))
   case atStart => exact ⟨(y171), (0), (by first | rfl | (simp; done) | (simp [*]; done)), H', ⟨Nat.le_refl _⟩, ⟨by (with_reducible repeat (first | apply Kd.S_alloc | apply Kd.S_drewN | apply Kd.S_drew)); exact HO173.out⟩, ⟨bI HB.out⟩⟩
   case round =>
    clear H';try clear c1
    try clear p2
    try clear c3
    try clear c4
    try clear c5
    try clear c5b0
    try clear c5b1
    try clear c6
    try clear c6b0
    try clear c6b1
    obtain ⟨x9_1, x20_1, rfl, HA, HK1, HO_9, HB⟩ := hrel;have hl9_1 := (Kd.S_reads' HO_9.out).1;rw [hl9_1] at HO_9;(try simp only [hl9_1])
    cases gk with
    | zero => exact absurd HA.out (by simp [tower_system.l0])
    | succ k1 =>
     have H := HA.out;clear HA;simp only [tower_system.l0] at H;by_cases c10 : x20_1 < (y171.length : Int)
     ·rw [if_pos c10] at H;have c10b0 : decide (x20_1 < (y171.length : Int)) = true := decide_eq_true c10;(try (have c10b0h := c10b0; rw [hl9_1] at c10b0h))
      clear c10;obtain ⟨ji11, hji11⟩ : ∃ j_ : Int, (wrap64 ((l1.length : Int) + 1)) = j_ := ⟨_, rfl⟩;replace H : (if 0 ≤ (ji11) then (if (ji11 : Int).toNat ≤ 35184372088832 then (if 0 ≤ x20_1 then (if x20_1 < (x9_1.length : Int) then ((some (x9_1.set (x20_1 : Int).toNat (List.replicate (ji11 : Int).toNat 0) : List (List Int))).bind fun y177 => (if x20_1 < (l3.length : Int) then (if 0 ≤ (l1.length : Int) then (if (l1.length : Int) < ((rd_L2 y177 x20_1).length : Int) then (tower_system.l0 k1 a0 l1 a2 l3 (y177.set (x20_1 : Int).toNat ((rd_L2 y177 x20_1).set ((l1.length : Int) : Int).toNat (rd l3 x20_1))) (y171.length : Int) (wrap64 (x20_1 + 1))) else (none)) else (none)) else (none))) else (none)) else (none)) else (none)) else (none)) = some r := by first | (rw [hji11] at H; exact H) | (simp only [hji11] at H ⊢; exact H)
      have hji11w : (IntKind.i64.wrap ((l1.length : Int) + 1)) = ji11 := (i64_w _).trans hji11;by_cases c12 : 0 ≤ (ji11)
      ·rw [if_pos c12] at H;have c12b0 := eq_true c12;have c12b1 : decide (0 ≤ (ji11)) = true := decide_eq_true c12;clear c12;by_cases c13 : (ji11 : Int).toNat ≤ 35184372088832
       ·rw [if_pos c13] at H;have c13b0 := eq_true c13;have c13b1 : decide ((ji11 : Int).toNat ≤ 35184372088832) = true := decide_eq_true c13;clear c13;obtain ⟨y174, hy174⟩ : ∃ y_ : List Int, y_ = (List.replicate (ji11 : Int).toNat 0) := ⟨_, rfl⟩;replace H : (if 0 ≤ x20_1 then (if x20_1 < (x9_1.length : Int) then ((some (x9_1.set (x20_1 : Int).toNat y174 : List (List Int))).bind fun y177 => (if x20_1 < (l3.length : Int) then (if 0 ≤ (l1.length : Int) then (if (l1.length : Int) < ((rd_L2 y177 x20_1).length : Int) then (tower_system.l0 k1 a0 l1 a2 l3 (y177.set (x20_1 : Int).toNat ((rd_L2 y177 x20_1).set ((l1.length : Int) : Int).toNat (rd l3 x20_1))) (y171.length : Int) (wrap64 (x20_1 + 1))) else (none)) else (none)) else (none))) else (none)) else (none)) = some r := by first | (rw [hy174]; with_reducible exact H) | (have H2_ := (Option.bind_some _ _).symm.trans H; rw [hy174]; with_reducible exact H2_) | (have H2_ := (Option.bind_some _ _).symm.trans H; with_reducible exact H2_) | with_reducible exact H | (rw [hy174]; exact H) | exact H
        have Ny174 := Q9a.mk hy174;clear hy174;by_cases c14 : 0 ≤ x20_1
        ·rw [if_pos c14] at H;have c14b0 : decide (0 ≤ x20_1) = true := decide_eq_true c14;clear c14;by_cases c15 : x20_1 < (x9_1.length : Int)
         ·rw [if_pos c15] at H;have c15b0 : decide (x20_1 < (x9_1.length : Int)) = true := decide_eq_true c15;(try (have c15b0h := c15b0; rw [hl9_1] at c15b0h))
          clear c15;obtain ⟨y177, hy177⟩ : ∃ y_ : List (List Int), y_ = (x9_1.set (x20_1 : Int).toNat y174) := ⟨_, rfl⟩;replace H : (if x20_1 < (l3.length : Int) then (if 0 ≤ (l1.length : Int) then (if (l1.length : Int) < ((rd_L2 y177 x20_1).length : Int) then (tower_system.l0 k1 a0 l1 a2 l3 (y177.set (x20_1 : Int).toNat ((rd_L2 y177 x20_1).set ((l1.length : Int) : Int).toNat (rd l3 x20_1))) (y171.length : Int) (wrap64 (x20_1 + 1))) else (none)) else (none)) else (none)) = some r := by first | (rw [hy177]; with_reducible exact H) | (have H2_ := (Option.bind_some _ _).symm.trans H; rw [hy177]; with_reducible exact H2_) | (have H2_ := (Option.bind_some _ _).symm.trans H; with_reducible exact H2_) | with_reducible exact H | (rw [hy177]; exact H) | exact H
          have Ny177 := Q9a.mk hy177;clear hy177;by_cases c17 : x20_1 < (l3.length : Int)
          ·rw [if_pos c17] at H;have c17b0 : decide (x20_1 < (l3.length : Int)) = true := decide_eq_true c17;(try (have c17b0h := c17b0; rw [hl9_1] at c17b0h))
           clear c17;by_cases c18 : 0 ≤ (l1.length : Int)
           ·rw [if_pos c18] at H;have c18b0 : decide (0 ≤ (l1.length : Int)) = true := decide_eq_true c18;(try (have c18b0h := c18b0; rw [hl9_1] at c18b0h))
            have c18b1 : decide (0 ≤ l1.length) = true := decide_eq_true (by omega);(try (have c18b1h := c18b1; rw [hl9_1] at c18b1h))
            clear c18;by_cases c19 : (l1.length : Int) < ((rd_L2 y177 x20_1).length : Int)
            ·rw [if_pos c19] at H;have c19b0 : decide ((l1.length : Int) < ((rd_L2 y177 x20_1).length : Int)) = true := decide_eq_true c19;(try (have c19b0h := c19b0; rw [hl9_1] at c19b0h))
             have c19b1 : decide (l1.length < (rd_L2 y177 x20_1).length) = true := decide_eq_true (Int.ofNat_lt.mp c19);(try (have c19b1h := c19b1; rw [hl9_1] at c19b1h))
             clear c19;obtain ⟨y180, hy180⟩ : ∃ y_ : List Int, y_ = ((rd_L2 y177 x20_1).set ((l1.length : Int) : Int).toNat (rd l3 x20_1)) := ⟨_, rfl⟩;replace H : (tower_system.l0 k1 a0 l1 a2 l3 (y177.set (x20_1 : Int).toNat y180) (y171.length : Int) (wrap64 (x20_1 + 1))) = some r := by first | (rw [hy180]; with_reducible exact H) | (have H2_ := (Option.bind_some _ _).symm.trans H; rw [hy180]; with_reducible exact H2_) | (have H2_ := (Option.bind_some _ _).symm.trans H; with_reducible exact H2_) | with_reducible exact H | (rw [hy180]; exact H) | exact H
             have Ny180 := Q9a.mk hy180;clear hy180;obtain ⟨y182, hy182⟩ : ∃ y_ : List (List Int), y_ = (y177.set (x20_1 : Int).toNat y180) := ⟨_, rfl⟩;replace H : (tower_system.l0 k1 a0 l1 a2 l3 y182 (y171.length : Int) (wrap64 (x20_1 + 1))) = some r := by first | (rw [hy182]; with_reducible exact H) | (have H2_ := (Option.bind_some _ _).symm.trans H; rw [hy182]; with_reducible exact H2_) | (have H2_ := (Option.bind_some _ _).symm.trans H; with_reducible exact H2_) | with_reducible exact H | (rw [hy182]; exact H) | exact H
             have Ny182 := Q9a.mk hy182;clear hy182;have H' := Q9a.mk H;clear H;try go_wp2_with (first | ((with_reducible refine gD (N := 28) rfl ?_); refine Kd.R_make (Kd.int .i64) _ 3 rfl (N := 28) rfl 22 _ _ rfl ji11 rfl rfl Try.underlying22 (.int .i64 0) 8 info3 rfl (by decide) (by omega) 0 (ok := fun _ => True) (okp := fun _ => True) rfl (fun _ hk => hk) trivial (of_decide_eq_true (by first | (with_reducible assumption) | assumption)) (Nat.le_trans (Nat.mul_le_mul_right _ (of_decide_eq_true (by first | (with_reducible assumption) | assumption) : ji11.toNat ≤ 35184372088832)) (by omega)) (Below.refl _ _) (Nat.le_refl _) ?_; intro v175 w21 ho22 hb hg_ hnew_; clear hg_ hnew_; (first | rw [← Ny174.out] at ho22 | (simp only [Int.reduceToNat] at ho22; rw [← Ny174.out] at ho22)); have n0_ := Q9a.mk (Kd.S_elder' (by (with_reducible repeat (first | apply Kd.S_alloc | apply Kd.S_drewN | apply Kd.S_drew)); exact HO_9.out) (Kd.R_base ho22) hb); have n1_ := Q9a.mk (Kd.rL ho22 (bZ (bI HB.out))); have n2_ := Q9a.mk (bP (bI HB.out) hb); clear HO_9; clear HB; have HO_9 := n0_; have HO176 := n1_; have HB := n2_; clear n0_ n1_ n2_; clear hb ho22; have p16 : 0 ≤ (x20_1 : Int) := of_decide_eq_true (by first | (with_reducible assumption) | assumption); have q16 : (x20_1 : Int) < ((x9_1.length : Int) : Int) := of_decide_eq_true (by first | (with_reducible assumption) | assumption); obtain ⟨go16, co16, eo16, gb16, gl16, cl16, HG16⟩ := Kd.S_form HO_9.out (by omega); (first | cases eo16 | (injection eo16 with ea_ en_ ec_; (first | subst ea_ | (injection ea_ with ea_; subst ea_)); subst ec_; clear en_)); have GB16 := Q9a.mk gb16; have GG16 := Q9a.mk HG16; clear gb16 gl16 HG16; obtain ⟨_, ce16, hcl16, hM16, hcc16, hfr16, _, _⟩ := Kd.S_elem HO_9.out [] (x20_1 : Int) p16 q16; obtain ⟨ve16_0, rfl, ge16_0⟩ := hM16; have hx16_0 := hcc16 0 _ rfl; have hf16_0 := hfr16 0; (try simp only [show ((Kd.slice 3 (Kd.int .i64))).sz = 1 from rfl, Nat.mul_one, Nat.add_zero] at hx16_0); (try simp only [show ((Kd.slice 3 (Kd.int .i64))).sz = 1 from rfl, Nat.mul_one, Nat.add_zero] at hf16_0); (try clear hM16); (try clear hfr16); (try clear hcc16); (try clear hcl16); replace p16 := eq_true p16; replace q16 := eq_true q16; have n_ := Q9a.mk (Kd.S_mono (ok' := (fun k_ => some k_ ≠ (v175 : Value).ownBlock)) HO_9.out (fun k_ hk => hk.2)); clear HO_9; have HO_9 := n_; clear n_; have HX23 := Q9a.mk (show Kd.S (Kd.slice 3 (Kd.int .i64)) 22 w21 w.heap.size (fun k_ => ((fun _ => True)) k_ ∧ ¬ ((fun k_ => some k_ = (v175 : Value).ownBlock)) k_) (.slice (some ⟨go16, 0, none⟩) x9_1.length co9) x9_1 from (by (with_reducible repeat (first | apply Kd.S_alloc | apply Kd.S_drewN | apply Kd.S_drew)); exact Kd.S_mono HO_9.out (fun k_ hk => ⟨trivial, fun e_ => hk e_⟩))); obtain ⟨oki23, ce23, hcl23, hM23, hcc23, hfr23, hoki23, hH23⟩ := Kd.S_elem HX23.out [] (x20_1 : Int) (of_decide_eq_true (by first | (with_reducible assumption) | assumption)) (by have h_ : (x20_1 : Int) < ((x9_1.length : Int) : Int) := of_decide_eq_true (by first | (with_reducible assumption) | assumption); first | exact h_ | (have e_ := (Kd.S_reads' HO_9.out).1; omega) | simpa using h_); obtain ⟨ve23_0, rfl, ge23_0⟩ := hM23; have HP23 := Kd.S_seg hH23 (of_decide_eq_true (by first | (with_reducible assumption) | assumption)) (by have h_ : (x20_1 : Int) < ((x9_1.length : Int) : Int) := of_decide_eq_true (by first | (with_reducible assumption) | assumption); first | exact h_ | (have e_ := (Kd.S_reads' HO_9.out).1; omega) | simpa using h_) (seg := [v175]) (j := 0) (show 1 ≤ 1 from by decide) (x' := y174) (Kd.M_row (Kd.R_mono (Kd.R_tight rfl (Kd.R_mono (ok' := fun k_ => ((fun _ => True)) k_ ∧ k_ ≠ go16) (Kd.R_apart' (HO176.out) (Kd.S_typed HO_9.out) (by decide)) (fun k_ hk => ⟨trivial, fun e_ => (hk.2) (by rw [e_]; rfl)⟩))) (fun _ h_ => Or.inr (h_)))) (fun _ hk => hk) (fun k_ hk_ => ((Kd.R_mono (ok' := fun k_ => ((fun _ => True)) k_ ∧ k_ ≠ go16) (Kd.R_apart' (HO176.out) (Kd.S_typed HO_9.out) (by decide)) (fun k_ hk => ⟨trivial, fun e_ => (hk.2) (by rw [e_]; rfl)⟩))).1 k_ hk_.symm); have hx23_0 := hcc23 0 _ rfl; (try simp only [show ((Kd.slice 3 (Kd.int .i64))).sz = 1 from rfl, Nat.mul_one, Nat.add_zero] at hx23_0); have hf23_0 := hfr23 0; (try simp only [show ((Kd.slice 3 (Kd.int .i64))).sz = 1 from rfl, Nat.mul_one, Nat.add_zero] at hf23_0); (try clear hH23); (try clear hoki23); (try clear hM23); (try clear hfr23); (try clear hcc23); (try clear hcl23); (try simp only [show ((Kd.slice 3 (Kd.int .i64))).sz = 1 from rfl, Nat.mul_one, Nat.add_zero] at HP23); obtain ⟨A175_, c175_, hq175_⟩ := Kd.R_slice HO176.out; subst hq175_) | ((with_reducible refine gate_store (t := 22) (p := 29) rfl ?_); refine store_event (t := 22) (p := 29) (v := ?vo_w24) (w1 := (w21.setCell ⟨go16, (x20_1 : Int).toNat, none⟩ (.slice A175_ y174.length c175_))) ?hg ?ho ?hn ?hr ?_; (case ho => rfl); (case hg => rfl); (case hn => rfl); (case hr => first | (go_simp; done) | (go_simp; rfl)); intro w24 hw; have hg : w21.grownBy w24 (some go16) := (by rw [hw]; exact HP23.2); have hp_ : Kd.S (Kd.slice 3 (Kd.int .i64)) 22 w24 w.heap.size (fun _ => True) (.slice (some ⟨go16, 0, none⟩) x9_1.length co9) y177 := (by rw [hw, Ny177.out]; exact HP23.1); clear HP23; have n0_ := Q9a.mk (hp_); have n1_ := Q9a.mk ((by rw [hw]; exact bS (HB.out) GB16.out : Below w.heap.size w w24)); clear HO_9; clear HB; clear HO176; have HO_9 := n0_; have HB := n1_; clear n0_ n1_; clear hg hw hp_))
             have n0_ := Q9a.mk (Kd.S_drew HO_9.out);have n1_ := Q9a.mk (bD HB.out);clear HO_9;clear HB;have HO_9 := n0_;have HB := n1_;clear n0_ n1_;have p178 : 0 ≤ (x20_1 : Int) := of_decide_eq_true (by first | (with_reducible assumption) | assumption);have q178 : x20_1 < (y177.length : Int) := (by have h_ : (x20_1 : Int) < ((x9_1.length : Int) : Int) := of_decide_eq_true (by first | (with_reducible assumption) | assumption); first | (have e_ := (Kd.S_reads' HO_9.out).1; omega) | simpa only [Ny177.out, List.length_set] using h_);have ql178 : ((x20_1 : Int) < ((x9_1.length : Int) : Int)) = True := eq_true (of_decide_eq_true (by first | (with_reducible assumption) | assumption));obtain ⟨ad178, A178_0, c178_0, e178, hx178_0, hl178_0, hi178_0⟩ := at_L2 (Kd.S_reads' HO_9.out).2.2 x20_1 p178 q178;obtain rfl : (⟨go16, 0, none⟩ : Addr) = ad178 := (by injection e178);obtain ⟨ce178, hce178, hMe178, hcc178⟩ := Kd.S_get HO_9.out [] x20_1 p178 (by first | exact q178 | exact of_decide_eq_true (by first | (with_reducible assumption) | assumption) | (have e_ := (Kd.S_reads' HO_9.out).1; omega));obtain ⟨ve178_0, rfl, ge178_0⟩ := hMe178;have hv178_0 := hcc178 0 _ rfl;rw [Nat.add_zero, show ((Kd.slice 3 (Kd.int .i64))).sz = 1 from rfl, Nat.mul_one] at hv178_0;replace hv178_0 := Option.some.inj (hv178_0.symm.trans hx178_0);rw [hv178_0] at ge178_0;have HL178_0 := Q9a.mk (show Kd.R (Kd.int .i64) 3 _ _ _ _ (rd_L2 y177 x20_1) from ge178_0);clear hv178_0 ge178_0;have HX178_0 := Q9a.mk hx178_0;clear hcc178 hce178;(first | simp only [add_plain] at hx178_0 | simp only [add_at] at hx178_0 | simp only [Addr.add, Nat.zero_add] at hx178_0 | skip)
             have HR178_0 := Q9a.mk hi178_0;have HC178_0 := Q9a.mk hl178_0;clear hi178_0 hl178_0;replace p178 := eq_true p178;replace q178 := eq_true q178;have p179 : 0 ≤ (x20_1 : Int) := of_decide_eq_true (by first | (with_reducible assumption) | assumption);have q179 : x20_1 < (l3.length : Int) := of_decide_eq_true (by first | (with_reducible assumption) | assumption);obtain ⟨ad179, e179, hx179_0⟩ := Kd.at_int HR3.out x20_1 p179 q179;have hw179_0 := hx179_0
             cases e179
             replace hx179_0 := (HB.out.cell (World.block_lt_of_cell? w _ hx179_0)).trans hx179_0;replace p179 := eq_true p179;replace q179 := eq_true q179;have p20 : 0 ≤ ((l1.length : Int) : Int) := of_decide_eq_true (by first | (with_reducible assumption) | assumption);have q20 : ((l1.length : Int) : Int) < (((rd_L2 y177 x20_1).length : Int) : Int) := of_decide_eq_true (by first | (with_reducible assumption) | assumption);obtain ⟨go20, co20, eo20, gb20, gl20, cl20, HG20⟩ := Kd.R_form HL178_0.out (by omega);(first | cases eo20 | (injection eo20 with ea_ en_ ec_; (first | subst ea_ | (injection ea_ with ea_; subst ea_)); subst ec_; clear en_))
             have GB20 := Q9a.mk gb20;have GG20 := Q9a.mk HG20;clear gb20 gl20 HG20;obtain ⟨hx20_0, hf20_0⟩ := Kd.R_celln 0 HL178_0.out ((l1.length : Int) : Int) p20 q20;replace p20 := eq_true p20;replace q20 := eq_true q20;have hq26 : (x20_1 : Int) < (y177.length : Int) := (by have h_ : (x20_1 : Int) < ((x9_1.length : Int) : Int) := of_decide_eq_true (by first | (with_reducible assumption) | assumption); first | exact h_ | (have e_ := (Kd.S_reads' HO_9.out).1; omega) | simpa only [Ny177.out, List.length_set] using h_);obtain ⟨oki26, ce26, hcl26, hM26, hcc26, hok26, hbk26⟩ := Kd.S_borrow HO_9.out [] (x20_1 : Int) (of_decide_eq_true (by first | (with_reducible assumption) | assumption)) (by have h_ := hq26; rw [Ny177.out, List.length_set] at h_; exact h_);obtain ⟨ve26_0, rfl, ge26_0⟩ := hM26;have hv26 := hcc26 0 _ rfl;rw [Nat.add_zero, show ((Kd.slice 3 (Kd.int .i64))).sz = 1 from rfl, Nat.mul_one] at hv26;replace hv26 := Option.some.inj (hv26.symm.trans HX178_0.out);subst hv26;clear hcc26 hcl26;replace ge26_0 := (show Kd.R (Kd.int .i64) 3 _ _ _ _ (rd_L2 y177 x20_1) from ge26_0);have HP26 := Kd.R_putg ge26_0 ((l1.length : Int) : Int) (rd l3 x20_1);rw [← Ny180.out] at HP26;have HS26 := hbk26 HP26.2 (fun k_ e_ => by injection e_ with e_; subst e_; exact ge26_0.1 _ rfl) (x' := y180) (Kd.M_row HP26.1);rw [← Ny182.out] at HS26;have HQ26 := Q9a.mk HS26;clear HP26 HS26 hbk26 hok26;refine start_ (n := 12) (S := fun w' => w'.cell? ⟨go16, (x20_1).toNat, none⟩ = some (.slice (some ⟨go20, 0, none⟩) (rd_L2 y177 x20_1).length c178_0) ∧ w'.cell? (ad179.add (x20_1).toNat) = some (.int .i64 (rd l3 x20_1))) (ds := [11]) #[fB,fB,fB,fB,fB,fB,fB,fB,fB,fB,fB,fB] (by kernel_rfl) rfl rfl ⟨hx178_0, ((HB.out.cell (World.block_lt_of_cell? w _ hw179_0)).trans hw179_0)⟩ (fun hHeld => ?_); refine with_tabW tower_system.tab6 tower_system.bits6 (fun HT_ HW_ => ?_);generalize w24.drew = w25 at HO_9 HB GG20 HL178_0 HQ26 HR178_0 HX178_0 hf20_0 hx178_0 hx179_0 hx20_0 hHeld ⊢;(try simp only [Int.toNat_natCast] at hx20_0); (try simp only [Int.toNat_natCast] at hf20_0)
             refine pT 0 30 rfl HT_.out ?_;refine pT 1 31 rfl HT_.out ?_;refine pT 2 32 rfl HT_.out ?_;refine pT 4 34 rfl HT_.out ?_;refine pT 5 35 rfl HT_.out ?_;refine pT 6 36 rfl HT_.out ?_;refine pT 7 37 rfl HT_.out ?_;refine pT 8 38 rfl HT_.out ?_;refine tT 3 33 rfl HT_.out HW_.out hHeld ?_;refine tT 9 39 rfl HT_.out HW_.out hHeld ?_;refine pT 10 40 rfl HT_.out ?_;refine last_ (i := 11) (N := none) #[tB,tB,tB,tB,tB,tB,tB,tB,tB,tB,tB,tB] rfl rfl (one_of HT_.out (by kernel_rfl)) (by decide) (fun K hK => ?_);refine skip_ (w1 := ?_) (by rfl) rfl ?_ ?_;rotate_left
             ·go_simp;rfl
             refine hK.out _ _ ?_;clear hK K;refine done_ (done_of HT_.out (by kernel_rfl)) ?_;try go_wp2
             (try simp only [← hl9_1])
             go_roundg k1
             case measure => have := HK1.out; omega
             case rel => exact ⟨(y182), (wrap64 (x20_1 + 1)), (by first | rfl | (simp; done) | (simp [*]; done)), H', ⟨by have := HK1.out; omega⟩, ⟨by (try simp only [hl9_1]); (with_reducible repeat (first | apply Kd.S_alloc | apply Kd.S_drewN | apply Kd.S_drew)); exact HQ26.out⟩, ⟨bJ HB.out GB20.out⟩⟩
            rw [if_neg c19] at H;exact absurd H (by simp)
           rw [if_neg c18] at H;exact absurd H (by simp)
          rw [if_neg c17] at H;exact absurd H (by simp)
         rw [if_neg c15] at H;exact absurd H (by simp)
        rw [if_neg c14] at H;exact absurd H (by simp)
       rw [if_neg c13] at H;exact absurd H (by simp)
      rw [if_neg c12] at H;exact absurd H (by simp)
     rw [if_neg c10] at H;have c10b0 : decide (x20_1 < (y171.length : Int)) = false := decide_eq_false c10;(try (have c10b0h := c10b0; rw [hl9_1] at c10b0h))
     clear c10;have H' := Q9a.mk H;clear H;go_wp2
     go_loopg [44] k1 (fun kq v44 w' => ∃ (x9_2 : List (List Int)) (x44_2 : Int), v44 = .int .i64 x44_2 ∧ Q9a (tower_system.l1 kq a0 a2 x9_2 l1 (l1.length : Int) x44_2 = some r) ∧ Q9a (kq ≤ k1) ∧ Q9a (Kd.S (Kd.slice 3 (Kd.int .i64)) 22 w' w.heap.size (fun _ => True) (.slice Ao9 x9_1.length co9) x9_2) ∧ Q9a (Below w.heap.size w w'))
     case atStart => exact ⟨(x9_1), (0), (by first | rfl | (simp; done) | (simp [*]; done)), H', ⟨Nat.le_refl _⟩, ⟨by (try simp only [hl9_1]); (with_reducible repeat (first | apply Kd.S_alloc | apply Kd.S_drewN | apply Kd.S_drew)); exact HO_9.out⟩, ⟨bI HB.out⟩⟩
     case round =>
      clear H';try clear c1
      try clear p1
      try clear q1
      try clear hx1
      try clear c2
      try clear p2
      try clear q2
      try clear hx2
      try clear c3
      try clear c4
      try clear c5
      try clear c5b0
      try clear c5b1
      try clear c6
      try clear c6b0
      try clear c6b1
      try clear p6
      try clear c10
      try clear c10b0
      try clear c12
      try clear c12b0
      try clear c12b1
      try clear c13
      try clear c13b0
      try clear c13b1
      try clear c14
      try clear c14b0
      try clear c15
      try clear c15b0
      try clear c16
      try clear p16
      try clear q16
      try clear hx16
      try clear hf16
      try clear c17
      try clear c17b0
      try clear p17
      try clear q17
      try clear hx17
      try clear c18
      try clear c18b0
      try clear c18b1
      try clear c19
      try clear c19b0
      try clear c19b1
      try clear p20
      try clear q20
      try clear hx20
      try clear hf20
      try clear c23
      try clear hx23
      try clear hf23
      try clear c26
      try clear q26
      try clear hx16_0
      try clear hx178_0
      try clear hx179_0
      try clear hx20_0
      try clear hx23_0
      try clear p16
      try clear p178
      try clear p179
      try clear p2
      try clear p20
      try clear q16
      try clear q178
      try clear q179
      try clear q20
      obtain ⟨x9_2, x44_2, rfl, HA, HK2, HO_9, HB⟩ := hrel;have hl9_2 := (Kd.S_reads' HO_9.out).1;rw [hl9_2] at HO_9;(try simp only [hl9_2])
      cases gk with
      | zero => exact absurd HA.out (by simp [tower_system.l1])
      | succ k2 =>
       have H := HA.out;clear HA;simp only [tower_system.l1] at H;by_cases c28 : x44_2 < (l1.length : Int)
       ·rw [if_pos c28] at H;have c28b0 : decide (x44_2 < (l1.length : Int)) = true := decide_eq_true c28;(try (have c28b0h := c28b0; rw [hl9_1] at c28b0h))
        (try (have c28b0h := c28b0; rw [hl9_2] at c28b0h))
        clear c28;by_cases c29 : 0 ≤ x44_2
        ·rw [if_pos c29] at H;have c29b0 : decide (0 ≤ x44_2) = true := decide_eq_true c29;clear c29;by_cases c30 : x44_2 < (l1.length : Int)
         ·rw [if_pos c30] at H;have c30b0 : decide (x44_2 < (l1.length : Int)) = true := decide_eq_true c30;(try (have c30b0h := c30b0; rw [hl9_1] at c30b0h))
          (try (have c30b0h := c30b0; rw [hl9_2] at c30b0h))
          clear c30;replace H := Option.bind_eq_some_iff.mp H;obtain ⟨t184, A310, H⟩ := H;replace H : (tower_system.l2 k2 a0 a2 x9_2 x44_2 l1 (l1.length : Int) x44_2 t184 (t184.length : Int) 0) = some r := H;have A31 := Q9a.mk A310;clear A310;have H' := Q9a.mk H;clear H;have p183 : 0 ≤ (x44_2 : Int) := of_decide_eq_true (by first | (with_reducible assumption) | assumption);have q183 : x44_2 < (l1.length : Int) := of_decide_eq_true (by first | (with_reducible assumption) | assumption);obtain ⟨ad183, e183, hx183_0⟩ := Kd.at_int HR1.out x44_2 p183 q183
          cases e183
          replace hx183_0 := (HB.out.cell (World.block_lt_of_cell? w _ hx183_0)).trans hx183_0;replace p183 := eq_true p183;replace q183 := eq_true q183;go_wp2_with (first | ((with_reducible refine gC (f := 48) rfl ?_); refine gL (some 52) rfl rfl Try.func48 (by kernel_rfl) rfl #[.pointer (some ⟨b_a0, 0, none⟩), .int .i64 (rd l1 x44_2), .int .i64 a2] rfl (by (try simp only [sm1, sm2, sm3]); first | done | rfl | (simp only [sm4, sm5]; rfl)) ?_; (with_reducible refine (tower_each.calls k2 b_a0 a0 (rd l1 x44_2) a2 t184 _ ?side1 A31.out).mono ?_); (case side1 => exact GFok.belowT HG_a0.out (bI HB.out)); rintro e w32 ⟨v185, rfl, ho0, hb⟩; refine ⟨_, rfl, ?_⟩; have n0_ := Q9a.mk (Kd.S_elder' (by (with_reducible repeat (first | apply Kd.S_alloc | apply Kd.S_drewN | apply Kd.S_drew)); exact HO_9.out) (Kd.R_base ho0) hb); have n1_ := Q9a.mk (Kd.rL ho0 (bZ (bI HB.out))); have n2_ := Q9a.mk (bP (bI HB.out) hb); clear HO_9; clear HB; have HO_9 := n0_; have HO186 := n1_; have HB := n2_; clear n0_ n1_ n2_; (try clear ho0); obtain ⟨Ao33, co33, eo33⟩ := Kd.R_slice HO186.out; subst eo33))
          go_loopg [54] k2 (fun kq v54 w' => ∃ (x9_3 : List (List Int)) (x52_3 : List Int) (x54_3 : Int), v54 = .int .i64 x54_3 ∧ Q9a (tower_system.l2 kq a0 a2 x9_3 x44_2 l1 (l1.length : Int) x44_2 x52_3 (t184.length : Int) x54_3 = some r) ∧ Q9a (kq ≤ k2) ∧ Q9a (Kd.S (Kd.slice 3 (Kd.int .i64)) 22 w' w.heap.size (fun k_ => some k_ ≠ ((.slice Ao33 t184.length co33) : Value).ownBlock) (.slice Ao9 x9_2.length co9) x9_3) ∧ Q9a (Kd.R (Kd.int .i64) 3 w' w.heap.size (fun _ => True) (.slice Ao33 t184.length co33) x52_3) ∧ Q9a (Below w.heap.size w w'))
          case atStart => exact ⟨(x9_2), (t184), (0), (by first | rfl | (simp; done) | (simp [*]; done)), H', ⟨Nat.le_refl _⟩, ⟨by (try simp only [hl9_1]); (try simp only [hl9_2]); (with_reducible repeat (first | apply Kd.S_alloc | apply Kd.S_drewN | apply Kd.S_drew)); exact Kd.S_mono HO_9.out (fun _ hk => hk.2)⟩, ⟨by (try simp only [hl9_1]); (try simp only [hl9_2]); (with_reducible repeat (first | apply Kd.rA | apply Kd.rN | apply Kd.rD)); exact HO186.out⟩, ⟨bI HB.out⟩⟩
          case round =>
           clear H';try clear c1
           try clear p1
           try clear q1
           try clear hx1
           try clear c2
           try clear p2
           try clear q2
           try clear hx2
           try clear c3
           try clear c4
           try clear c5
           try clear c5b0
           try clear c5b1
           try clear c6
           try clear c6b0
           try clear c6b1
           try clear p6
           try clear c10
           try clear c10b0
           try clear c12
           try clear c12b0
           try clear c12b1
           try clear c13
           try clear c13b0
           try clear c13b1
           try clear c14
           try clear c14b0
           try clear c15
           try clear c15b0
           try clear c16
           try clear p16
           try clear q16
           try clear hx16
           try clear hf16
           try clear c17
           try clear c17b0
           try clear p17
           try clear q17
           try clear hx17
           try clear c18
           try clear c18b0
           try clear c18b1
           try clear p18
           try clear q18
           try clear hx18
           try clear c19
           try clear c19b0
           try clear c19b1
           try clear p20
           try clear q20
           try clear hx20
           try clear hf20
           try clear c23
           try clear hx23
           try clear hf23
           try clear c26
           try clear q26
           try clear c28
           try clear c28b0
           try clear c29
           try clear c29b0
           try clear c30
           try clear c30b0
           try clear hx16_0
           try clear hx178_0
           try clear hx179_0
           try clear hx183_0
           try clear hx20_0
           try clear hx23_0
           try clear p1
           try clear p16
           try clear p17
           try clear p178
           try clear p179
           try clear p183
           try clear p2
           try clear p20
           try clear p6
           try clear q1
           try clear q16
           try clear q17
           try clear q178
           try clear q179
           try clear q183
           try clear q2
           try clear q20
           try clear q26
           obtain ⟨x9_3, x52_3, x54_3, rfl, HA, HK3, HO_9, HO_52, HB⟩ := hrel;have hl9_3 := (Kd.S_reads' HO_9.out).1;rw [hl9_3] at HO_9;(try simp only [hl9_3])
           (try simp only [hl9_3] at HO_52)
           have hl52_3 := (Kd.R_reads' HO_52.out).1;rw [hl52_3] at HO_52;(try simp only [hl52_3])
           (try simp only [hl52_3] at HO_9)
           cases gk with
           | zero => exact absurd HA.out (by simp [tower_system.l2])
           | succ k3 =>
            have H := HA.out;clear HA;simp only [tower_system.l2] at H;by_cases c34 : x54_3 < (t184.length : Int)
            ·rw [if_pos c34] at H;have c34b0 : decide (x54_3 < (t184.length : Int)) = true := decide_eq_true c34;(try (have c34b0h := c34b0; rw [hl9_1] at c34b0h))
             (try (have c34b0h := c34b0; rw [hl9_2] at c34b0h))
             (try (have c34b0h := c34b0; rw [hl9_3] at c34b0h))
             (try (have c34b0h := c34b0; rw [hl52_3] at c34b0h))
             clear c34;by_cases c35 : 0 ≤ x54_3
             ·rw [if_pos c35] at H;have c35b0 : decide (0 ≤ x54_3) = true := decide_eq_true c35;clear c35;by_cases c36 : x54_3 < (x52_3.length : Int)
              ·rw [if_pos c36] at H;have c36b0 : decide (x54_3 < (x52_3.length : Int)) = true := decide_eq_true c36;(try (have c36b0h := c36b0; rw [hl9_1] at c36b0h))
               (try (have c36b0h := c36b0; rw [hl9_2] at c36b0h))
               (try (have c36b0h := c36b0; rw [hl9_3] at c36b0h))
               (try (have c36b0h := c36b0; rw [hl52_3] at c36b0h))
               clear c36;by_cases c37 : x54_3 < (x9_3.length : Int)
               ·rw [if_pos c37] at H;have c37b0 : decide (x54_3 < (x9_3.length : Int)) = true := decide_eq_true c37;(try (have c37b0h := c37b0; rw [hl9_1] at c37b0h))
                (try (have c37b0h := c37b0; rw [hl9_2] at c37b0h))
                (try (have c37b0h := c37b0; rw [hl9_3] at c37b0h))
                (try (have c37b0h := c37b0; rw [hl52_3] at c37b0h))
                clear c37;by_cases c38 : 0 ≤ x44_2
                ·rw [if_pos c38] at H;have c38b0 : decide (0 ≤ x44_2) = true := decide_eq_true c38;clear c38;by_cases c39 : x44_2 < ((rd_L2 x9_3 x54_3).length : Int)
                 ·rw [if_pos c39] at H;have c39b0 : decide (x44_2 < ((rd_L2 x9_3 x54_3).length : Int)) = true := decide_eq_true c39;(try (have c39b0h := c39b0; rw [hl9_1] at c39b0h))
                  (try (have c39b0h := c39b0; rw [hl9_2] at c39b0h))
                  (try (have c39b0h := c39b0; rw [hl9_3] at c39b0h))
                  (try (have c39b0h := c39b0; rw [hl52_3] at c39b0h))
                  clear c39;obtain ⟨y189, hy189⟩ : ∃ y_ : List Int, y_ = ((rd_L2 x9_3 x54_3).set (x44_2 : Int).toNat (rd x52_3 x54_3)) := ⟨_, rfl⟩;replace H : (tower_system.l2 k3 a0 a2 (x9_3.set (x54_3 : Int).toNat y189) x44_2 l1 (l1.length : Int) x44_2 x52_3 (t184.length : Int) (wrap64 (x54_3 + 1))) = some r := by first | (rw [hy189]; with_reducible exact H) | (have H2_ := (Option.bind_some _ _).symm.trans H; rw [hy189]; with_reducible exact H2_) | (have H2_ := (Option.bind_some _ _).symm.trans H; with_reducible exact H2_) | with_reducible exact H | (rw [hy189]; exact H) | exact H
                  have Ny189 := Q9a.mk hy189;clear hy189;obtain ⟨y191, hy191⟩ : ∃ y_ : List (List Int), y_ = (x9_3.set (x54_3 : Int).toNat y189) := ⟨_, rfl⟩;replace H : (tower_system.l2 k3 a0 a2 y191 x44_2 l1 (l1.length : Int) x44_2 x52_3 (t184.length : Int) (wrap64 (x54_3 + 1))) = some r := by first | (rw [hy191]; with_reducible exact H) | (have H2_ := (Option.bind_some _ _).symm.trans H; rw [hy191]; with_reducible exact H2_) | (have H2_ := (Option.bind_some _ _).symm.trans H; with_reducible exact H2_) | with_reducible exact H | (rw [hy191]; exact H) | exact H
                  have Ny191 := Q9a.mk hy191;clear hy191;have H' := Q9a.mk H;clear H;have p187 : 0 ≤ (x54_3 : Int) := of_decide_eq_true (by first | (with_reducible assumption) | assumption);have q187 : x54_3 < (x52_3.length : Int) := of_decide_eq_true (by first | (with_reducible assumption) | assumption);obtain ⟨ad187, e187, hx187_0⟩ := Kd.at_int (Kd.R_reads' HO_52.out).2.2 x54_3 p187 q187
                  cases e187
                  replace p187 := eq_true p187;replace q187 := eq_true q187;have p188 : 0 ≤ (x54_3 : Int) := of_decide_eq_true (by first | (with_reducible assumption) | assumption);have q188 : x54_3 < (x9_3.length : Int) := of_decide_eq_true (by first | (with_reducible assumption) | assumption);obtain ⟨ad188, A188_0, c188_0, e188, hx188_0, hl188_0, hi188_0⟩ := at_L2 (Kd.S_reads' HO_9.out).2.2 x54_3 p188 q188
                  cases e188
                  obtain ⟨ce188, hce188, hMe188, hcc188⟩ := Kd.S_get HO_9.out [] x54_3 p188 (by first | exact q188 | exact of_decide_eq_true (by first | (with_reducible assumption) | assumption) | (have e_ := (Kd.S_reads' HO_9.out).1; omega));obtain ⟨ve188_0, rfl, ge188_0⟩ := hMe188;have hv188_0 := hcc188 0 _ rfl;rw [Nat.add_zero, show ((Kd.slice 3 (Kd.int .i64))).sz = 1 from rfl, Nat.mul_one] at hv188_0;replace hv188_0 := Option.some.inj (hv188_0.symm.trans hx188_0);rw [hv188_0] at ge188_0;have HL188_0 := Q9a.mk (show Kd.R (Kd.int .i64) 3 _ _ _ _ (rd_L2 x9_3 x54_3) from ge188_0);clear hv188_0 ge188_0;have HX188_0 := Q9a.mk hx188_0;clear hcc188 hce188;have HR188_0 := Q9a.mk hi188_0;have HC188_0 := Q9a.mk hl188_0;clear hi188_0 hl188_0;replace p188 := eq_true p188;replace q188 := eq_true q188;have p40 : 0 ≤ (x44_2 : Int) := of_decide_eq_true (by first | (with_reducible assumption) | assumption);have q40 : (x44_2 : Int) < (((rd_L2 x9_3 x54_3).length : Int) : Int) := of_decide_eq_true (by first | (with_reducible assumption) | assumption);obtain ⟨go40, co40, eo40, gb40, gl40, cl40, HG40⟩ := Kd.R_form HL188_0.out (by omega);(first | cases eo40 | (injection eo40 with ea_ en_ ec_; (first | subst ea_ | (injection ea_ with ea_; subst ea_)); subst ec_; clear en_))
                  have GB40 := Q9a.mk gb40;have GG40 := Q9a.mk HG40;clear gb40 gl40 HG40;obtain ⟨hx40_0, hf40_0⟩ := Kd.R_celln 0 HL188_0.out (x44_2 : Int) p40 q40;replace p40 := eq_true p40;replace q40 := eq_true q40;have hq41 : (x54_3 : Int) < (x9_3.length : Int) := (by have h_ : (x54_3 : Int) < ((x9_3.length : Int) : Int) := of_decide_eq_true (by first | (with_reducible assumption) | assumption); first | exact h_ | (have e_ := (Kd.S_reads' HO_9.out).1; omega) | simpa only [List.length_set, List.length_set] using h_);obtain ⟨oki41, ce41, hcl41, hM41, hcc41, hok41, hbk41⟩ := Kd.S_borrow HO_9.out [] (x54_3 : Int) (of_decide_eq_true (by first | (with_reducible assumption) | assumption)) hq41;obtain ⟨ve41_0, rfl, ge41_0⟩ := hM41;have hv41 := hcc41 0 _ rfl;rw [Nat.add_zero, show ((Kd.slice 3 (Kd.int .i64))).sz = 1 from rfl, Nat.mul_one] at hv41;replace hv41 := Option.some.inj (hv41.symm.trans HX188_0.out);subst hv41;clear hcc41 hcl41;replace ge41_0 := (show Kd.R (Kd.int .i64) 3 _ _ _ _ (rd_L2 x9_3 x54_3) from ge41_0);have HP41 := Kd.R_putg ge41_0 (x44_2 : Int) (rd x52_3 x54_3);go_wp2_with (first | ((with_reducible refine gate_store (t := 3) (p := 65) rfl ?_); refine store_event (t := 3) (p := 65) (v := ?vo_w42) (w1 := (wr.setCell ⟨go40, (x44_2 : Int).toNat, none⟩ (.int .i64 (rd x52_3 x54_3)))) ?hg ?ho ?hn ?hr ?_; (case ho => rfl); (case hg => rfl); (case hn => rfl); (case hr => first | (go_simp; done) | (go_simp; rfl)); intro w42 hw; have hg : wr.grownBy w42 (some go40) := (by rw [hw]; exact HP41.2); have hz_ : Kd.R (Kd.int .i64) 3 w42 w.heap.size oki41 (.slice (some ⟨go40, 0, none⟩) (rd_L2 x9_3 x54_3).length c188_0) y189 := (by rw [hw, Ny189.out]; exact HP41.1); have hp_ : Kd.S (Kd.slice 3 (Kd.int .i64)) 22 w42 w.heap.size (fun k_ => some k_ ≠ (.slice (some ad187) x52_3.length co33 : Value).ownBlock) (.slice (some ad188) x9_3.length co9) y191 := (by rw [Ny191.out]; exact hbk41 hg (fun k_ e_ => by injection e_ with e_; subst e_; exact ge41_0.1 _ rfl) (Kd.M_row hz_)); have hm_ := Kd.R_mono hz_ hok41; clear HP41 hbk41; have n0_ := Q9a.mk (hp_); have n1_ := Q9a.mk (Kd.R_grown1 (rI HO_52.out) rfl hg ((HL188_0.out.1 _ rfl).1)); have n2_ := Q9a.mk ((by rw [hw]; exact bS (HB.out) GB40.out : Below w.heap.size w w42)); have n3_ := Q9a.mk (hm_); have n4_ := Q9a.mk ((Kd.R_reads' hm_).2.1); clear HO_9; clear HO_52; clear HB; clear HL188_0; have HO_9 := n0_; have HO_52 := n1_; have HB := n2_; have HL192 := n3_; have HC190 := n4_; clear n0_ n1_ n2_ n3_ n4_; clear hg hw hp_ hz_ hm_ hok41))
                  (try simp only [← hl9_3, ← hl52_3])
                  go_roundg k3
                  case measure => have := HK1.out; have := HK2.out; have := HK3.out; omega
                  case rel => exact ⟨(y191), (x52_3), (wrap64 (x54_3 + 1)), (by first | rfl | (simp; done) | (simp [*]; done)), H', ⟨by have := HK1.out; have := HK2.out; have := HK3.out; omega⟩, ⟨by (try simp only [hl9_1]); (try simp only [hl9_2]); (try simp only [hl9_3]); (try simp only [hl52_3]); (with_reducible repeat (first | apply Kd.S_alloc | apply Kd.S_drewN | apply Kd.S_drew)); exact HO_9.out⟩, ⟨by (try simp only [hl9_1]); (try simp only [hl9_2]); (try simp only [hl9_3]); (try simp only [hl52_3]); (with_reducible repeat (first | apply Kd.rA | apply Kd.rN | apply Kd.rD)); exact HO_52.out⟩, ⟨bI HB.out⟩⟩
                 rw [if_neg c39] at H;exact absurd H (by simp)
                rw [if_neg c38] at H;exact absurd H (by simp)
               rw [if_neg c37] at H;exact absurd H (by simp)
              rw [if_neg c36] at H;exact absurd H (by simp)
             rw [if_neg c35] at H;exact absurd H (by simp)
            rw [if_neg c34] at H;have c34b0 : decide (x54_3 < (t184.length : Int)) = false := decide_eq_false c34;(try (have c34b0h := c34b0; rw [hl9_1] at c34b0h))
            (try (have c34b0h := c34b0; rw [hl9_2] at c34b0h))
            (try (have c34b0h := c34b0; rw [hl9_3] at c34b0h))
            (try (have c34b0h := c34b0; rw [hl52_3] at c34b0h))
            clear c34;have H' := Q9a.mk H;clear H;go_wp2
            (try simp only [← hl9_2, ← hl9_3, ← hl52_3])
            go_roundg k3
            case measure => have := HK1.out; have := HK2.out; have := HK3.out; omega
            case rel => exact ⟨(x9_3), (wrap64 (x44_2 + 1)), (by first | rfl | (simp; done) | (simp [*]; done)), H', ⟨by have := HK1.out; have := HK2.out; have := HK3.out; omega⟩, ⟨by (try simp only [hl9_1]); (try simp only [hl9_2]); (try simp only [hl9_3]); (try simp only [hl52_3]); (with_reducible repeat (first | apply Kd.S_alloc | apply Kd.S_drewN | apply Kd.S_drew)); exact Kd.S_mono HO_9.out (fun _ hk => trivial)⟩, ⟨bI HB.out⟩⟩
         rw [if_neg c30] at H;exact absurd H (by simp)
        rw [if_neg c29] at H;exact absurd H (by simp)
       rw [if_neg c28] at H;have c28b0 : decide (x44_2 < (l1.length : Int)) = false := decide_eq_false c28;(try (have c28b0h := c28b0; rw [hl9_1] at c28b0h))
       (try (have c28b0h := c28b0; rw [hl9_2] at c28b0h))
       clear c28;obtain rfl := Option.some.inj H;go_wp2
       go_ret
       exact ⟨_, by first | rfl | (simp [*, eN, eS] <;> rfl), by (with_reducible repeat (first | apply Kd.S_alloc | apply Kd.S_drewN | apply Kd.S_drew)); exact HO_9.out, bI HB.out⟩
  rw [if_neg c6] at H;exact absurd H (by simp)
 rw [if_neg c5] at H;exact absurd H (by simp)
end
end Go.Proofs.Ytlbddjojhcgpiaa.P
end
