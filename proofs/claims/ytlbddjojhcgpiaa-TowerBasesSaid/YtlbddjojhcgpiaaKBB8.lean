/- What towerBases_holds needs: texts Pa8, Pa9, Sv1, GmInv, put together. -/
import Derived.Test.YtlbddjojhcgpiaaKBB7
set_option linter.unusedVariables false
set_option linter.unusedSimpArgs false
set_option linter.unusedSectionVars false
set_option maxHeartbeats 8000000
set_option maxRecDepth 100000
-- Pa8
section
namespace Go.Proofs.Ytlbddjojhcgpiaa.P
noncomputable section
open Go.RowKit Go.Proofs.Ytlbddjojhcgpiaa.Hand Go.Proofs.YtlbddjojhcgpiaaW.PrintWords Go.Proofs.YtlbddjojhcgpiaaW.PrintLast Go.Proofs.YtlbddjojhcgpiaaW.PrintMore
set_option linter.unusedVariables false
set_option linter.unusedSimpArgs false
mutual
def r7IsBasis.j0 : Nat → List Int → Int → Bool → Int → Int → List Int → Option (Bool)
 | 0, _, _, _, _, _, _ => none
 | k + 1, x1, x2, x27, x270000, x270001, x270002 => if x27 = true then (some false) else ((r7Subfield.f k x270000 x270001 x270002 x2).bind fun t271 => (r7IsBasis.l0 k x1 t271 (([0] : List Int)) 0 x270000 x270001 x270002))
def r7IsBasis.l0 : Nat → List Int → List Int → List Int → Int → Int → Int → List Int → Option (Bool)
 | 0, _, _, _, _, _, _, _ => none
 | k + 1, x1, x7, x8, x9, x270000, x270001, x270002 => if x9 < (x1.length : Int) then (r7IsBasis.l1 k x1 x7 x8 x9 ([] : List Int) 0 x270000 x270001 x270002) else ((r4Order.f k x270000 x270001 x270002).bind fun t285 => (if 0 ≤ t285 then (if (t285 : Int).toNat ≤ 281474976710656 then (r7IsBasis.l3 k x8 (List.replicate (t285 : Int).toNat false) 0) else (none)) else (none)))
def r7IsBasis.l1 : Nat → List Int → List Int → List Int → Int → List Int → Int → Int → Int → List Int → Option (Bool)
 | 0, _, _, _, _, _, _, _, _, _ => none
 | k + 1, x1, x7, x8, x9, x10, x11, x270000, x270001, x270002 => if x11 < (x8.length : Int) then (r7IsBasis.l2 k x1 x7 x8 x9 x10 x11 0 x270000 x270001 x270002) else (r7IsBasis.l0 k x1 x7 x10 (wrap64 (x9 + 1)) x270000 x270001 x270002)
def r7IsBasis.l2 : Nat → List Int → List Int → List Int → Int → List Int → Int → Int → Int → Int → List Int → Option (Bool)
 | 0, _, _, _, _, _, _, _, _, _, _ => none
 | k + 1, x1, x7, x8, x9, x10, x11, x12, x270000, x270001, x270002 => if x12 < (x7.length : Int) then (if 0 ≤ x11 then (if x11 < (x8.length : Int) then (if 0 ≤ x12 then (if 0 ≤ x9 then (if x9 < (x1.length : Int) then ((r4Mul.f k x270000 x270001 x270002 (rd x7 x12) (rd x1 x9)).bind fun t280 => ((r4Add.f k x270000 x270001 x270002 (rd x8 x11) t280).bind fun t281 => (if x10.length < 17592186044416 then (r7IsBasis.l2 k x1 x7 x8 x9 (x10 ++ [t281]) x11 (wrap64 (x12 + 1)) x270000 x270001 x270002) else (none)))) else (none)) else (none)) else (none)) else (none)) else (none)) else (r7IsBasis.l1 k x1 x7 x8 x9 x10 (wrap64 (x11 + 1)) x270000 x270001 x270002)
def r7IsBasis.l3 : Nat → List Int → List Bool → Int → Option (Bool)
 | 0, _, _, _ => none
 | k + 1, x8, x13, x14 => if x14 < (x8.length : Int) then (if 0 ≤ x14 then (if 0 ≤ (rd x8 x14) then (if (rd x8 x14) < (x13.length : Int) then (if rdOf false x13 (rd x8 x14) = true then (some false) else (r7IsBasis.l3 k x8 (x13.set ((rd x8 x14) : Int).toNat true) (wrap64 (x14 + 1)))) else (none)) else (none)) else (none)) else (some true)
end
def r7IsBasis.f (k : Nat) (a0_0 : Int) (a0_1 : Int) (l0_2 : List Int) (l1 : List Int) (a2 : Int) : Option (Bool) := (r7Divides.f a0_0 a0_1 l0_2 a2).bind fun t270 => (if t270 = true then (if a2 = 0 then (none) else (r7IsBasis.j0 k l1 a2 ((l1.length : Int) != (wrap64 (Int.tdiv a0_1 a2))) a0_0 a0_1 l0_2)) else (r7IsBasis.j0 k l1 a2 true a0_0 a0_1 l0_2))
def r7IsBasis.T15 : Bool × List (List Nat × List Nat) := (true, [([], []), ([], []), ([], []), ([], []), ([2, 3], [2, 3]), ([4], [4]), ([], []), ([], []), ([], []), ([7, 8], [7, 8]), ([9], [9]), ([], []), ([], []), ([11, 12], [11, 12]), ([13], [13]), ([6, 10, 14], [6, 10, 14]), ([1, 5, 15, 15], [1, 5, 15]), ([16], [16]), ([0, 17, 16], [0, 17]), ([18, 18, 0, 1, 2, 3, 4, 5, 6, 7, 8, 9, 10, 11, 12, 13, 14, 15, 16, 17, 18], [0, 18])])
def r7IsBasis.B15 : List Nat := [0, 0, 0, 0, 12, 28, 0, 0, 0, 384, 896, 0, 0, 6144, 14336, 32704, 65534, 131070, 262143, 524287]
theorem r7IsBasis.tab15 : rtab .any (opsOf Try.f14 15) = r7IsBasis.T15 := by kernel_rfl
theorem r7IsBasis.bits15 : waitsOk r7IsBasis.T15.2 r7IsBasis.B15 = true := by kernel_rfl
theorem r7IsBasis.calls (k : Nat) (a0_0 : Int) (a0_1 : Int) (A0_2 : Option Addr) (c0_2 : Nat) (l0_2 : List Int) (A1 : Option Addr) (c1 : Nat) (l1 : List Int) (a2 : Int) (r : Bool) (w : World) (hr0_2 : Kd.C (Kd.int .i64) w A0_2 l0_2.length l0_2) (hc0_2 : l0_2.length ≤ c0_2) (hr1 : Kd.C (Kd.int .i64) w A1 l1.length l1) (hc1 : l1.length ≤ c1) (h : r7IsBasis.f k a0_0 a0_1 l0_2 l1 a2 = some r) :
  Calls Try.prog 14 #[.agg #[.int .i64 a0_0, .int .i64 a0_1, .slice A0_2 l0_2.length c0_2], .slice A1 l1.length c1, .int .i64 a2] w fun e w' => e = .returned (.bool r) ∧ Below w.heap.size w w' := by
 have hu24 := Try.underlying24;have HR0_2 := Q9a.mk hr0_2;have HC0_2 := Q9a.mk hc0_2;clear hr0_2 hc0_2;have HR1 := Q9a.mk hr1;have HC1 := Q9a.mk hc1;clear hr1 hc1;have HB := Q9a.mk (Below.refl w.heap.size w);have H : ((r7Divides.f a0_0 a0_1 l0_2 a2).bind fun t270 => (if t270 = true then (if a2 = 0 then (none) else (r7IsBasis.j0 k l1 a2 ((l1.length : Int) != (wrap64 (Int.tdiv a0_1 a2))) a0_0 a0_1 l0_2)) else (r7IsBasis.j0 k l1 a2 true a0_0 a0_1 l0_2))) = some r := h;clear h;have HC4 := Q9a.mk H;clear H;go_enter Try.func14, Try.ntmps14
 go_upto_region 1 with (first | ((with_reducible refine gD (N := 3) rfl ?_); (try (refine gG (by rfl) ?_; dsimp only)); refine bE ?hg (N := 3) ?hd (cs := #[.int .i64 a0_0, .int .i64 a0_1, .slice A0_2 l0_2.length c0_2]) (t := 24) ?hr ?_; (case hd => rfl); (case hg => rfl); (case hr => first | (go_simp; done) | (go_simp; rfl)); intro gb269 hg w5 hbox hb; have n0_ := Q9a.mk (bP (by repeat (first | (with_reducible first | exact HB.out | apply bA | apply bN | apply bD) | exact HB.out)) hb); have n1_ := Q9a.mk (hbox); have n2_ := Q9a.mk ((by rw [hg]; exact (bZ (by repeat (first | (with_reducible first | exact HB.out | apply bA | apply bN | apply bD) | exact HB.out))) : w.heap.size ≤ gb269)); have n3_ := n2_; clear HB; have HB := n0_; have BK269 := n1_; have GW269 := n2_; have GE269 := n3_; clear n0_ n1_ n2_ n3_; clear hb hbox hg))
 (try simp only [Act.put, sz1, sz2, sz3])
 go_cut [27] (fun v27 wc => ∃ (kq : Nat) (x27_3 : Bool), v27 = .bool x27_3 ∧ Q9a (r7IsBasis.j0 kq l1 a2 x27_3 a0_0 a0_1 l0_2 = some r) ∧ Q9a (kq ≤ k) ∧ Q9a (wc.heap[gb269]? = some (.cells #[.int .i64 a0_0, .int .i64 a0_1, (.slice A0_2 l0_2.length c0_2)] 24 (0, 0))) ∧ Q9a (Below w.heap.size w wc))
 case first =>
  have H := HC4.out;clear HC4;replace H := Option.bind_eq_some_iff.mp H;obtain ⟨t270, A60, H⟩ := H;replace H : (if t270 = true then (if a2 = 0 then (none) else (r7IsBasis.j0 k l1 a2 ((l1.length : Int) != (wrap64 (Int.tdiv a0_1 a2))) a0_0 a0_1 l0_2)) else (r7IsBasis.j0 k l1 a2 true a0_0 a0_1 l0_2)) = some r := H;have A6 := Q9a.mk A60;clear A60;by_cases c7 : t270 = true
  ·subst c7;have H1 : (if a2 = 0 then (none) else (r7IsBasis.j0 k l1 a2 ((l1.length : Int) != (wrap64 (Int.tdiv a0_1 a2))) a0_0 a0_1 l0_2)) = some r := by rw [if_pos rfl] at H; exact H
   clear H;have H := H1;clear H1;by_cases c8 : a2 = 0
   ·rw [if_pos c8] at H;exact absurd H (by simp)
   rw [if_neg c8] at H;have c8b0 : (a2 == 0) = false := beq_eq_false_iff_ne.mpr c8;have c8b1 : (a2 != 0) = true := bne_iff_ne.mpr c8;(first | rw [c8b0] | (simp only [i64_w, i32_w]; rw [c8b0]) | skip)
   have H' := Q9a.mk H;clear H;have hcz9_0 : w5.cell? ⟨gb269, 0, none⟩ = some (.int .i64 a0_0) := (kC BK269.out 0).trans rfl;have hcz9_1 : w5.cell? ⟨gb269, 1, none⟩ = some (.int .i64 a0_1) := (kC BK269.out 1).trans rfl;have hcz9_2 : w5.cell? ⟨gb269, 2, none⟩ = some (.slice A0_2 l0_2.length c0_2) := (kC BK269.out 2).trans rfl;have hfz9_0 := kF BK269.out 0;have hfz9_1 := kF BK269.out 1;have hfz9_2 := kF BK269.out 2;go_wp2_with (first | ((with_reducible refine gC (f := 13) rfl ?_); refine gL (some 17) rfl rfl Try.func13 (by kernel_rfl) rfl #[.agg #[.int .i64 a0_0, .int .i64 a0_1, .slice A0_2 l0_2.length c0_2], .int .i64 a2] rfl (by (try simp only [sm1, sm2, sm3]); first | done | rfl | (simp only [sm4, sm5]; rfl)) ?_; (with_reducible refine (r7Divides.calls a0_0 a0_1 _ _ l0_2 a2 true _ ?side1 ?side2 A6.out).mono ?_); (case side1 => repeat (first | exact (Kd.cB HR0_2.out HB.out) | with_reducible first | refine Kd.cA ?_ _ | refine Kd.cN ?_ _ | refine Kd.cD ?_)); (case side2 => exact HC0_2.out); rintro e w10 ⟨rfl, hb⟩; refine ⟨_, rfl, ?_⟩; have n0_ := Q9a.mk (kB (g := gb269) (o := .cells #[.int .i64 a0_0, .int .i64 a0_1, .slice A0_2 l0_2.length c0_2] 24 (0, 0)) (by (with_reducible repeat (first | refine kN ?_ _ | refine kD ?_ | refine kA ?_ _)); exact BK269.out) hb); have n1_ := Q9a.mk (bP (by repeat (first | (with_reducible first | exact HB.out | apply bA | apply bN | apply bD | refine bS ?_ GE269.out) | exact HB.out)) hb); clear BK269; clear HB; have BK269 := n0_; have HB := n1_; clear n0_ n1_; have hcz11_0 : w10.cell? ⟨gb269, 0, none⟩ = some (.int .i64 a0_0) := (kC BK269.out 0).trans rfl; have hcz11_1 : w10.cell? ⟨gb269, 1, none⟩ = some (.int .i64 a0_1) := (kC BK269.out 1).trans rfl; have hcz11_2 : w10.cell? ⟨gb269, 2, none⟩ = some (.slice A0_2 l0_2.length c0_2) := (kC BK269.out 2).trans rfl; have hfz11_0 := kF BK269.out 0; have hfz11_1 := kF BK269.out 1; have hfz11_2 := kF BK269.out 2))
   go_meet
   case rel => exact ⟨_, (((l1.length : Int) != (wrap64 (Int.tdiv a0_1 a2)))), (by first | rfl | (simp; done) | (simp [*]; done)), H', ⟨by first | omega | exact Nat.le_refl _⟩, ⟨by (with_reducible repeat (first | refine kN ?_ _ | refine kD ?_ | refine kA ?_ _)); exact BK269.out⟩, ⟨by repeat (first | (with_reducible first | exact HB.out | apply bA | apply bN | apply bD | refine bS ?_ GE269.out) | exact HB.out)⟩⟩
  replace c7 := Bool.eq_false_iff.mpr c7;subst c7;have H1 : (r7IsBasis.j0 k l1 a2 true a0_0 a0_1 l0_2) = some r := by rw [if_neg (show ¬ (false = true) by decide)] at H; exact H
  clear H;have H := H1;clear H1;have H' := Q9a.mk H;clear H;have hcz12_0 : w5.cell? ⟨gb269, 0, none⟩ = some (.int .i64 a0_0) := (kC BK269.out 0).trans rfl;have hcz12_1 : w5.cell? ⟨gb269, 1, none⟩ = some (.int .i64 a0_1) := (kC BK269.out 1).trans rfl;have hcz12_2 : w5.cell? ⟨gb269, 2, none⟩ = some (.slice A0_2 l0_2.length c0_2) := (kC BK269.out 2).trans rfl;have hfz12_0 := kF BK269.out 0;have hfz12_1 := kF BK269.out 1;have hfz12_2 := kF BK269.out 2;go_wp2_with (first | ((with_reducible refine gC (f := 13) rfl ?_); refine gL (some 17) rfl rfl Try.func13 (by kernel_rfl) rfl #[.agg #[.int .i64 a0_0, .int .i64 a0_1, .slice A0_2 l0_2.length c0_2], .int .i64 a2] rfl (by (try simp only [sm1, sm2, sm3]); first | done | rfl | (simp only [sm4, sm5]; rfl)) ?_; (with_reducible refine (r7Divides.calls a0_0 a0_1 _ _ l0_2 a2 false _ ?side1 ?side2 A6.out).mono ?_); (case side1 => repeat (first | exact (Kd.cB HR0_2.out HB.out) | with_reducible first | refine Kd.cA ?_ _ | refine Kd.cN ?_ _ | refine Kd.cD ?_)); (case side2 => exact HC0_2.out); rintro e w13 ⟨rfl, hb⟩; refine ⟨_, rfl, ?_⟩; have n0_ := Q9a.mk (kB (g := gb269) (o := .cells #[.int .i64 a0_0, .int .i64 a0_1, .slice A0_2 l0_2.length c0_2] 24 (0, 0)) (by (with_reducible repeat (first | refine kN ?_ _ | refine kD ?_ | refine kA ?_ _)); exact BK269.out) hb); have n1_ := Q9a.mk (bP (by repeat (first | (with_reducible first | exact HB.out | apply bA | apply bN | apply bD | refine bS ?_ GE269.out) | exact HB.out)) hb); clear BK269; clear HB; have BK269 := n0_; have HB := n1_; clear n0_ n1_; (try clear hb); (try clear hb2); (try clear hk); (try clear hi)))
  go_meet
  case rel => exact ⟨_, (true), (by first | rfl | (simp; done) | (simp [*]; done)), H', ⟨by first | omega | exact Nat.le_refl _⟩, ⟨by (with_reducible repeat (first | refine kN ?_ _ | refine kD ?_ | refine kA ?_ _)); exact BK269.out⟩, ⟨by repeat (first | (with_reducible first | exact HB.out | apply bA | apply bN | apply bD | refine bS ?_ GE269.out) | exact HB.out)⟩⟩
 case rest =>
  clear HC4;try clear c1
  try clear p2
  try clear p6
  try clear c7
  try clear c8
  try clear c8b0
  try clear c8b1
  try clear c13
  try clear hcz11_0
  try clear hcz11_1
  try clear hcz11_2
  try clear hcz12_0
  try clear hcz12_1
  try clear hcz12_2
  try clear hcz9_0
  try clear hcz9_1
  try clear hcz9_2
  try clear hfz11_0
  try clear hfz11_1
  try clear hfz11_2
  try clear hfz12_0
  try clear hfz12_1
  try clear hfz12_2
  try clear hfz9_0
  try clear hfz9_1
  try clear hfz9_2
  obtain ⟨kq, x27_3, rfl, HA, HJ3, BK269, HB⟩ := hcut
  cases kq with
  | zero => exact absurd HA.out (by simp [r7IsBasis.j0])
  | succ kj3 =>
   have H := HA.out;clear HA;simp only [r7IsBasis.j0] at H;by_cases c14 : x27_3 = true
   ·subst c14;have H1 : (some false) = some r := by rw [if_pos rfl] at H; exact H
    clear H;have H := H1;clear H1;obtain rfl := Option.some.inj H;go_wp2
    go_ret
    exact ⟨by first | rfl | (simp [*, eN, eS] <;> rfl), by repeat (first | (with_reducible first | exact HB.out | apply bA | apply bN | apply bD | refine bS ?_ GE269.out) | exact HB.out)⟩
   replace c14 := Bool.eq_false_iff.mpr c14;subst c14;have H1 : ((r7Subfield.f kj3 a0_0 a0_1 l0_2 a2).bind fun t271 => (r7IsBasis.l0 kj3 l1 t271 (([0] : List Int)) 0 a0_0 a0_1 l0_2)) = some r := by rw [if_neg (show ¬ (false = true) by decide)] at H; exact H
   clear H;have H := H1;clear H1;replace H := Option.bind_eq_some_iff.mp H;obtain ⟨t271, A150, H⟩ := H;replace H : (r7IsBasis.l0 kj3 l1 t271 (([0] : List Int)) 0 a0_0 a0_1 l0_2) = some r := H;have A15 := Q9a.mk A150;clear A150;obtain ⟨y274, hy274⟩ : ∃ y_ : List Int, y_ = (([0] : List Int)) := ⟨_, rfl⟩;replace H : (r7IsBasis.l0 kj3 l1 t271 y274 0 a0_0 a0_1 l0_2) = some r := by first | (rw [hy274]; with_reducible exact H) | (have H2_ := (Option.bind_some _ _).symm.trans H; rw [hy274]; with_reducible exact H2_) | (have H2_ := (Option.bind_some _ _).symm.trans H; with_reducible exact H2_) | with_reducible exact H | (rw [hy274]; exact H) | exact H
   have Ny274 := Q9a.mk hy274;clear hy274;have H' := Q9a.mk H;clear H;have hcz16_0 : wc.cell? ⟨gb269, 0, none⟩ = some (.int .i64 a0_0) := (kC BK269.out 0).trans rfl;have hcz16_1 : wc.cell? ⟨gb269, 1, none⟩ = some (.int .i64 a0_1) := (kC BK269.out 1).trans rfl;have hcz16_2 : wc.cell? ⟨gb269, 2, none⟩ = some (.slice A0_2 l0_2.length c0_2) := (kC BK269.out 2).trans rfl;have hfz16_0 := kF BK269.out 0;have hfz16_1 := kF BK269.out 1;have hfz16_2 := kF BK269.out 2;go_wp2_with (first | ((with_reducible refine gC (f := 42) rfl ?_); refine gL (some 30) rfl rfl Try.func42 (by kernel_rfl) rfl #[.agg #[.int .i64 a0_0, .int .i64 a0_1, .slice A0_2 l0_2.length c0_2], .int .i64 a2] rfl (by (try simp only [sm1, sm2, sm3]); first | done | rfl | (simp only [sm4, sm5]; rfl)) ?_; (with_reducible refine (r7Subfield.calls kj3 a0_0 a0_1 _ _ l0_2 a2 t271 _ ?side1 ?side2 A15.out).mono ?_); (case side1 => repeat (first | exact (Kd.cB HR0_2.out HB.out) | with_reducible first | refine Kd.cA ?_ _ | refine Kd.cN ?_ _ | refine Kd.cD ?_)); (case side2 => exact HC0_2.out); rintro e w17 ⟨v272, rfl, ho0, hb⟩; refine ⟨_, rfl, ?_⟩; have n0_ := Q9a.mk (Kd.rL ho0 (bZ (by repeat (first | (with_reducible first | exact HB.out | apply bA | apply bN | apply bD | refine bS ?_ GE269.out) | exact HB.out)))); have n1_ := Q9a.mk (kB (g := gb269) (o := .cells #[.int .i64 a0_0, .int .i64 a0_1, .slice A0_2 l0_2.length c0_2] 24 (0, 0)) (by (with_reducible repeat (first | refine kN ?_ _ | refine kD ?_ | refine kA ?_ _)); exact BK269.out) hb); have n2_ := Q9a.mk (bP (by repeat (first | (with_reducible first | exact HB.out | apply bA | apply bN | apply bD | refine bS ?_ GE269.out) | exact HB.out)) hb); clear BK269; clear HB; have HO273 := n0_; have BK269 := n1_; have HB := n2_; clear n0_ n1_ n2_; (try clear ho0)) | ((with_reducible refine gD (N := 31) rfl ?_); (try (refine gG (by rfl) ?_; dsimp only)); refine Kd.R_lit (Kd.int .i64) _ 3 ?hg (N := 31) ?hd (xs := ([0] : List Int)) (inner := [.int .i64 0]) (ok := fun _ => True) (okp := fun _ => True) ?hr ?hp (fun _ hk => hk) trivial (Below.refl _ _) (Nat.le_refl _) (by simp) ?_; (case hd => rfl); (case hg => rfl); (case hr => first | (go_simp; done) | (go_simp; rfl)); (case hp => exact (Reps.one (show Kd.M (Kd.int .i64) _ _ _ 0 [.int .i64 0] from rfl) (Reps.none _ _))); intro v275 w18 ho19 hb hg_ hnew_; clear hg_ hnew_; (first | rw [← Ny274.out] at ho19 | (simp only [Int.reduceToNat] at ho19; rw [← Ny274.out] at ho19)); have n0_ := Q9a.mk (Kd.R_elder' (by (with_reducible repeat (first | apply Kd.rA | apply Kd.rN | apply Kd.rD)); exact HO273.out) (Kd.R_base ho19) hb); have n1_ := Q9a.mk (Kd.rL (Kd.R_new' ho19 (Kd.R_lt (by (with_reducible repeat (first | apply Kd.rA | apply Kd.rN | apply Kd.rD)); exact HO273.out))) (bZ (by repeat (first | (with_reducible first | exact HB.out | apply bA | apply bN | apply bD | refine bS ?_ GE269.out) | exact HB.out)))); have n2_ := Q9a.mk (kB (g := gb269) (o := .cells #[.int .i64 a0_0, .int .i64 a0_1, .slice A0_2 l0_2.length c0_2] 24 (0, 0)) (by (with_reducible repeat (first | refine kN ?_ _ | refine kD ?_ | refine kA ?_ _)); exact BK269.out) hb); have n3_ := Q9a.mk (bP (by repeat (first | (with_reducible first | exact HB.out | apply bA | apply bN | apply bD | refine bS ?_ GE269.out) | exact HB.out)) hb); clear HO273; clear BK269; clear HB; have HO273 := n0_; have HO276 := n1_; have BK269 := n2_; have HB := n3_; clear n0_ n1_ n2_ n3_; clear hb ho19))
   go_loopg [8, 9] kj3 (fun kq v8 v9 w' => ∃ (x8_2 : List Int) (x9_2 : Int), v9 = .int .i64 x9_2 ∧ Q9a (r7IsBasis.l0 kq l1 t271 x8_2 x9_2 a0_0 a0_1 l0_2 = some r) ∧ Q9a (kq ≤ kj3) ∧ Q9a (Kd.R (Kd.int .i64) 3 w' w.heap.size (fun k_ => some k_ ≠ (v8 : Value).ownBlock) v272 t271) ∧ Q9a (Kd.R (Kd.int .i64) 3 w' w.heap.size (fun k_ => some k_ ≠ (v272 : Value).ownBlock) v8 x8_2) ∧ Q9a (w'.heap[gb269]? = some (.cells #[.int .i64 a0_0, .int .i64 a0_1, (.slice A0_2 l0_2.length c0_2)] 24 (0, 0))) ∧ Q9a (Below w.heap.size w w'))
   case atStart => exact ⟨(y274), (0), (by first | rfl | (simp; done) | (simp [*]; done)), H', ⟨Nat.le_refl _⟩, ⟨by (with_reducible repeat (first | apply Kd.rA | apply Kd.rN | apply Kd.rD)); exact Kd.R_mono HO273.out (fun _ hk => hk.2)⟩, ⟨by (with_reducible repeat (first | apply Kd.rA | apply Kd.rN | apply Kd.rD)); exact Kd.R_mono HO276.out (fun _ hk => hk.2)⟩, ⟨by (with_reducible repeat (first | refine kN ?_ _ | refine kD ?_ | refine kA ?_ _)); exact BK269.out⟩, ⟨by repeat (first | (with_reducible first | exact HB.out | apply bA | apply bN | apply bD | refine bS ?_ GE269.out) | exact HB.out)⟩⟩
   case round =>
    clear H';try clear c1
    try clear p2
    try clear c4
    try clear p6
    try clear c7
    try clear c8
    try clear c8b0
    try clear c8b1
    try clear c13
    try clear c14
    try clear hcz11_0
    try clear hcz11_1
    try clear hcz11_2
    try clear hcz12_0
    try clear hcz12_1
    try clear hcz12_2
    try clear hcz16_0
    try clear hcz16_1
    try clear hcz16_2
    try clear hcz9_0
    try clear hcz9_1
    try clear hcz9_2
    try clear hfz11_0
    try clear hfz11_1
    try clear hfz11_2
    try clear hfz12_0
    try clear hfz12_1
    try clear hfz12_2
    try clear hfz16_0
    try clear hfz16_1
    try clear hfz16_2
    try clear hfz9_0
    try clear hfz9_1
    try clear hfz9_2
    try clear p2
    try clear p6
    obtain ⟨x8_2, x9_2, rfl, HA, HK2, HO_7, HO_8, BK269, HB⟩ := hrel
    cases gk with
    | zero => exact absurd HA.out (by simp [r7IsBasis.l0])
    | succ k2 =>
     have H := HA.out;clear HA;simp only [r7IsBasis.l0] at H;by_cases c20 : x9_2 < (l1.length : Int)
     ·rw [if_pos c20] at H;have c20b0 : decide (x9_2 < (l1.length : Int)) = true := decide_eq_true c20;clear c20;have H' := Q9a.mk H;clear H;go_wp2
      go_loopg [10, 11] k2 (fun kq v10 v11 w' => ∃ (x10_3 : List Int) (x11_3 : Int), v11 = .int .i64 x11_3 ∧ Q9a (r7IsBasis.l1 kq l1 t271 x8_2 x9_2 x10_3 x11_3 a0_0 a0_1 l0_2 = some r) ∧ Q9a (kq ≤ k2) ∧ Q9a (Kd.R (Kd.int .i64) 3 w' w.heap.size (fun k_ => some k_ ≠ (u8 : Value).ownBlock ∧ some k_ ≠ (v10 : Value).ownBlock) v272 t271) ∧ Q9a (Kd.R (Kd.int .i64) 3 w' w.heap.size (fun k_ => some k_ ≠ (v272 : Value).ownBlock ∧ some k_ ≠ (v10 : Value).ownBlock) u8 x8_2) ∧ Q9a (Kd.R (Kd.int .i64) 3 w' w.heap.size (fun k_ => some k_ ≠ (v272 : Value).ownBlock ∧ some k_ ≠ (u8 : Value).ownBlock) v10 x10_3) ∧ Q9a (w'.heap[gb269]? = some (.cells #[.int .i64 a0_0, .int .i64 a0_1, (.slice A0_2 l0_2.length c0_2)] 24 (0, 0))) ∧ Q9a (Below w.heap.size w w'))
      case atStart => exact ⟨(([] : List Int)), (0), (by first | rfl | (simp; done) | (simp [*]; done)), H', ⟨Nat.le_refl _⟩, ⟨by (with_reducible repeat (first | apply Kd.rA | apply Kd.rN | apply Kd.rD)); exact Kd.R_mono HO_7.out (fun _ hk => ⟨hk, (by simp [Value.ownBlock])⟩)⟩, ⟨by (with_reducible repeat (first | apply Kd.rA | apply Kd.rN | apply Kd.rD)); exact Kd.R_mono HO_8.out (fun _ hk => ⟨hk, (by simp [Value.ownBlock])⟩)⟩, ⟨by first | exact Kd.R_nil _ _ _ _ _ | exact Kd.N_nil _ _ _ _ _ | exact Kd.V_nil _ _ _ _ _ | exact Kd.Q_nil _ _ _ _ _ | exact Kd.S_nil _ _ _ _ _⟩, ⟨by (with_reducible repeat (first | refine kN ?_ _ | refine kD ?_ | refine kA ?_ _)); exact BK269.out⟩, ⟨by repeat (first | (with_reducible first | exact HB.out | apply bA | apply bN | apply bD | refine bS ?_ GE269.out) | exact HB.out)⟩⟩
      case round =>
       clear H';try clear c1
       try clear c2
       try clear p2
       try clear c4
       try clear p6
       try clear c7
       try clear c8
       try clear c8b0
       try clear c8b1
       try clear c13
       try clear c14
       try clear c20
       try clear c20b0
       try clear hcz11_0
       try clear hcz11_1
       try clear hcz11_2
       try clear hcz12_0
       try clear hcz12_1
       try clear hcz12_2
       try clear hcz16_0
       try clear hcz16_1
       try clear hcz16_2
       try clear hcz9_0
       try clear hcz9_1
       try clear hcz9_2
       try clear hfz11_0
       try clear hfz11_1
       try clear hfz11_2
       try clear hfz12_0
       try clear hfz12_1
       try clear hfz12_2
       try clear hfz16_0
       try clear hfz16_1
       try clear hfz16_2
       try clear hfz9_0
       try clear hfz9_1
       try clear hfz9_2
       try clear p2
       try clear p6
       obtain ⟨x10_3, x11_3, rfl, HA, HK3, HO_7, HO_8, HO_10, BK269, HB⟩ := hrel
       cases gk with
       | zero => exact absurd HA.out (by simp [r7IsBasis.l1])
       | succ k3 =>
        have H := HA.out;clear HA;simp only [r7IsBasis.l1] at H;by_cases c21 : x11_3 < (x8_2.length : Int)
        ·rw [if_pos c21] at H;have c21b0 : decide (x11_3 < (x8_2.length : Int)) = true := decide_eq_true c21;clear c21;have H' := Q9a.mk H;clear H;obtain ⟨Ao22, co22, eo22⟩ := Kd.R_slice HO_8.out;subst eo22;go_wp2
         go_loopg [10, 12] k3 (fun kq v10 v12 w' => ∃ (x10_4 : List Int) (x12_4 : Int), v12 = .int .i64 x12_4 ∧ Q9a (r7IsBasis.l2 kq l1 t271 x8_2 x9_2 x10_4 x11_3 x12_4 a0_0 a0_1 l0_2 = some r) ∧ Q9a (kq ≤ k3) ∧ Q9a (Kd.R (Kd.int .i64) 3 w' w.heap.size (fun k_ => some k_ ≠ ((.slice Ao22 x8_2.length co22) : Value).ownBlock ∧ some k_ ≠ (v10 : Value).ownBlock) v272 t271) ∧ Q9a (Kd.R (Kd.int .i64) 3 w' w.heap.size (fun k_ => some k_ ≠ (v272 : Value).ownBlock ∧ some k_ ≠ (v10 : Value).ownBlock) (.slice Ao22 x8_2.length co22) x8_2) ∧ Q9a (Kd.R (Kd.int .i64) 3 w' w.heap.size (fun k_ => some k_ ≠ (v272 : Value).ownBlock ∧ some k_ ≠ ((.slice Ao22 x8_2.length co22) : Value).ownBlock) v10 x10_4) ∧ Q9a (w'.heap[gb269]? = some (.cells #[.int .i64 a0_0, .int .i64 a0_1, (.slice A0_2 l0_2.length c0_2)] 24 (0, 0))) ∧ Q9a (Below w.heap.size w w'))
         case atStart => exact ⟨(x10_3), (0), (by first | rfl | (simp; done) | (simp [*]; done)), H', ⟨Nat.le_refl _⟩, ⟨by (with_reducible repeat (first | apply Kd.rA | apply Kd.rN | apply Kd.rD)); exact HO_7.out⟩, ⟨by (with_reducible repeat (first | apply Kd.rA | apply Kd.rN | apply Kd.rD)); exact HO_8.out⟩, ⟨by (with_reducible repeat (first | apply Kd.rA | apply Kd.rN | apply Kd.rD)); exact HO_10.out⟩, ⟨by (with_reducible repeat (first | refine kN ?_ _ | refine kD ?_ | refine kA ?_ _)); exact BK269.out⟩, ⟨by repeat (first | (with_reducible first | exact HB.out | apply bA | apply bN | apply bD | refine bS ?_ GE269.out) | exact HB.out)⟩⟩
         case round =>
          clear H';try clear c1
          try clear c2
          try clear p2
          try clear c4
          try clear p6
          try clear c7
          try clear c8
          try clear c8b0
          try clear c8b1
          try clear c13
          try clear c14
          try clear c20
          try clear c20b0
          try clear c21
          try clear c21b0
          try clear hcz11_0
          try clear hcz11_1
          try clear hcz11_2
          try clear hcz12_0
          try clear hcz12_1
          try clear hcz12_2
          try clear hcz16_0
          try clear hcz16_1
          try clear hcz16_2
          try clear hcz9_0
          try clear hcz9_1
          try clear hcz9_2
          try clear hfz11_0
          try clear hfz11_1
          try clear hfz11_2
          try clear hfz12_0
          try clear hfz12_1
          try clear hfz12_2
          try clear hfz16_0
          try clear hfz16_1
          try clear hfz16_2
          try clear hfz9_0
          try clear hfz9_1
          try clear hfz9_2
          try clear p2
          try clear p6
          obtain ⟨x10_4, x12_4, rfl, HA, HK4, HO_7, HO_8, HO_10, BK269, HB⟩ := hrel
          cases gk with
          | zero => exact absurd HA.out (by simp [r7IsBasis.l2])
          | succ k4 =>
           have H := HA.out;clear HA;simp only [r7IsBasis.l2] at H;by_cases c23 : x12_4 < (t271.length : Int)
           ·rw [if_pos c23] at H;have c23b0 : decide (x12_4 < (t271.length : Int)) = true := decide_eq_true c23;clear c23;by_cases c24 : 0 ≤ x11_3
            ·rw [if_pos c24] at H;have c24b0 : decide (0 ≤ x11_3) = true := decide_eq_true c24;clear c24;by_cases c25 : x11_3 < (x8_2.length : Int)
             ·rw [if_pos c25] at H;have c25b0 : decide (x11_3 < (x8_2.length : Int)) = true := decide_eq_true c25;clear c25;by_cases c26 : 0 ≤ x12_4
              ·rw [if_pos c26] at H;have c26b0 : decide (0 ≤ x12_4) = true := decide_eq_true c26;clear c26;by_cases c27 : 0 ≤ x9_2
               ·rw [if_pos c27] at H;have c27b0 : decide (0 ≤ x9_2) = true := decide_eq_true c27;clear c27;by_cases c28 : x9_2 < (l1.length : Int)
                ·rw [if_pos c28] at H;have c28b0 : decide (x9_2 < (l1.length : Int)) = true := decide_eq_true c28;clear c28;replace H := Option.bind_eq_some_iff.mp H;obtain ⟨t280, A290, H⟩ := H;replace H : ((r4Add.f k4 a0_0 a0_1 l0_2 (rd x8_2 x11_3) t280).bind fun t281 => (if x10_4.length < 17592186044416 then (r7IsBasis.l2 k4 l1 t271 x8_2 x9_2 (x10_4 ++ [t281]) x11_3 (wrap64 (x12_4 + 1)) a0_0 a0_1 l0_2) else (none))) = some r := H;have A29 := Q9a.mk A290;clear A290;replace H := Option.bind_eq_some_iff.mp H;obtain ⟨t281, A300, H⟩ := H;replace H : (if x10_4.length < 17592186044416 then (r7IsBasis.l2 k4 l1 t271 x8_2 x9_2 (x10_4 ++ [t281]) x11_3 (wrap64 (x12_4 + 1)) a0_0 a0_1 l0_2) else (none)) = some r := H;have A30 := Q9a.mk A300;clear A300;by_cases c31 : x10_4.length < 17592186044416
                 ·rw [if_pos c31] at H;have LMc31 := Q9a.mk c31;clear c31;obtain ⟨y282, hy282⟩ : ∃ y_ : List Int, y_ = (x10_4 ++ [t281]) := ⟨_, rfl⟩;replace H : (r7IsBasis.l2 k4 l1 t271 x8_2 x9_2 y282 x11_3 (wrap64 (x12_4 + 1)) a0_0 a0_1 l0_2) = some r := by first | (rw [hy282]; with_reducible exact H) | (have H2_ := (Option.bind_some _ _).symm.trans H; rw [hy282]; with_reducible exact H2_) | (have H2_ := (Option.bind_some _ _).symm.trans H; with_reducible exact H2_) | with_reducible exact H | (rw [hy282]; exact H) | exact H
                  have Ny282 := Q9a.mk hy282;clear hy282;have H' := Q9a.mk H;clear H;obtain ⟨Ao32, co32, eo32⟩ := Kd.R_slice HO_7.out;subst eo32;try go_wp2
                  have n0_ := Q9a.mk (Kd.rD HO_7.out);have n1_ := Q9a.mk (Kd.rD HO_8.out);have n2_ := Q9a.mk (Kd.rD HO_10.out);have n3_ := Q9a.mk (kD BK269.out);have n4_ := Q9a.mk (bD HB.out);clear HO_7;clear HO_8;clear HO_10;clear BK269;clear HB;have HO_7 := n0_;have HO_8 := n1_;have HO_10 := n2_;have BK269 := n3_;have HB := n4_;clear n0_ n1_ n2_ n3_ n4_;have p277 : 0 ≤ (x11_3 : Int) := of_decide_eq_true (by first | (with_reducible assumption) | assumption);have q277 : x11_3 < (x8_2.length : Int) := of_decide_eq_true (by first | (with_reducible assumption) | assumption);obtain ⟨ad277, e277, hx277_0⟩ := Kd.at_int (Kd.R_reads' HO_8.out).2.2 x11_3 p277 q277
                  cases e277
                  replace p277 := eq_true p277;replace q277 := eq_true q277;have p278 : 0 ≤ (x12_4 : Int) := of_decide_eq_true (by first | (with_reducible assumption) | assumption);have q278 : x12_4 < (t271.length : Int) := of_decide_eq_true (by first | (with_reducible assumption) | assumption);obtain ⟨ad278, e278, hx278_0⟩ := Kd.at_int (Kd.R_reads' HO_7.out).2.2 x12_4 p278 q278
                  cases e278
                  replace p278 := eq_true p278;replace q278 := eq_true q278;have p279 : 0 ≤ (x9_2 : Int) := of_decide_eq_true (by first | (with_reducible assumption) | assumption);have q279 : x9_2 < (l1.length : Int) := of_decide_eq_true (by first | (with_reducible assumption) | assumption);obtain ⟨ad279, e279, hx279_0⟩ := Kd.at_int HR1.out x9_2 p279 q279;have hw279_0 := hx279_0
                  cases e279
                  replace hx279_0 := (HB.out.cell (World.block_lt_of_cell? w _ hx279_0)).trans hx279_0;replace p279 := eq_true p279;replace q279 := eq_true q279;refine start_ (n := 20) (S := fun w' => w'.cell? ⟨gb269, 0, none⟩ = some (.int .i64 a0_0) ∧ w'.cell? ⟨gb269, 1, none⟩ = some (.int .i64 a0_1) ∧ w'.cell? ⟨gb269, 2, none⟩ = some (.slice A0_2 l0_2.length c0_2) ∧ w'.cell? (ad277.add (x11_3).toNat) = some (.int .i64 (rd x8_2 x11_3)) ∧ w'.cell? (ad278.add (x12_4).toNat) = some (.int .i64 (rd t271 x12_4)) ∧ w'.cell? (ad279.add (x9_2).toNat) = some (.int .i64 (rd l1 x9_2))) (ds := [17, 18]) #[fB,fB,fB,fB,fB,fB,fB,fB,fB,fB,fB,fB,fB,fB,fB,fB,fB,fB,fB,fB] (by kernel_rfl) rfl rfl ⟨(kC BK269.out 0).trans rfl, (kC BK269.out 1).trans rfl, (kC BK269.out 2).trans rfl, hx277_0, hx278_0, ((HB.out.cell (World.block_lt_of_cell? w _ hw279_0)).trans hw279_0)⟩ (fun hHeld => ?_); refine with_tabW r7IsBasis.tab15 r7IsBasis.bits15 (fun HT_ HW_ => ?_);generalize wr.drew = w33 at HO_7 HO_8 HO_10 BK269 HB hx277_0 hx278_0 hx279_0 hHeld ⊢;refine pQ 0 50 rfl (any_of HT_.out (by kernel_rfl)) ?_;refine pQ 2 52 rfl (any_of HT_.out (by kernel_rfl)) ?_;refine pQ 3 53 rfl (any_of HT_.out (by kernel_rfl)) ?_;refine pQ 4 54 rfl (any_of HT_.out (by kernel_rfl)) ?_;refine pQ 7 57 rfl (any_of HT_.out (by kernel_rfl)) ?_;refine pQ 8 58 rfl (any_of HT_.out (by kernel_rfl)) ?_;refine pQ 9 59 rfl (any_of HT_.out (by kernel_rfl)) ?_;refine pQ 11 61 rfl (any_of HT_.out (by kernel_rfl)) ?_;refine pQ 12 62 rfl (any_of HT_.out (by kernel_rfl)) ?_;refine pQ 13 63 rfl (any_of HT_.out (by kernel_rfl)) ?_;refine take_ (i := 1) (N := some 51) (v := ?_) (a' := ?_) #[tB,tB,tB,tB,tB,fB,fB,tB,tB,tB,fB,tB,tB,tB,fB,fB,fB,fB,fB,fB] rfl rfl (take_ofW HT_.out HW_.out (by kernel_rfl)) (fun _ _ _ h => h) (Or.inl ⟨by rfl, ?_⟩) hHeld ?_ ?_;rotate_left
                  ·rintro w' ⟨s0, s1, s2, s3, s4, s5⟩;go_simp;with_reducible rfl
                  rotate_left
                  ·simp only [Act.put, sz1, sz2, sz3, i64_w, i32_w];rfl
                  refine take_ (i := 5) (N := some 55) (v := ?_) (a' := ?_) #[tB,tB,tB,tB,tB,tB,fB,tB,tB,tB,fB,tB,tB,tB,fB,fB,fB,fB,fB,fB] rfl rfl (take_ofW HT_.out HW_.out (by kernel_rfl)) (fun _ _ _ h => h) (Or.inl ⟨by rfl, ?_⟩) hHeld ?_ ?_;rotate_left
                  ·rintro w' ⟨s0, s1, s2, s3, s4, s5⟩;go_simp;with_reducible rfl
                  rotate_left
                  ·simp only [Act.put, sz1, sz2, sz3, i64_w, i32_w];rfl
                  refine take_ (i := 6) (N := some 56) (v := ?_) (a' := ?_) #[tB,tB,tB,tB,tB,tB,tB,tB,tB,tB,fB,tB,tB,tB,fB,fB,fB,fB,fB,fB] rfl rfl (take_ofW HT_.out HW_.out (by kernel_rfl)) (fun _ _ _ h => h) (Or.inl ⟨by rfl, ?_⟩) hHeld ?_ ?_;rotate_left
                  ·rintro w' ⟨s0, s1, s2, s3, s4, s5⟩;go_simp;with_reducible rfl
                  rotate_left
                  ·simp only [Act.put, sz1, sz2, sz3, i64_w, i32_w];rfl
                  refine take_ (i := 10) (N := some 60) (v := ?_) (a' := ?_) #[tB,tB,tB,tB,tB,tB,tB,tB,tB,tB,tB,tB,tB,tB,fB,fB,fB,fB,fB,fB] rfl rfl (take_ofW HT_.out HW_.out (by kernel_rfl)) (fun _ _ _ h => h) (Or.inl ⟨by rfl, ?_⟩) hHeld ?_ ?_;rotate_left
                  ·rintro w' ⟨s0, s1, s2, s3, s4, s5⟩;go_simp;with_reducible rfl
                  rotate_left
                  ·simp only [Act.put, sz1, sz2, sz3, i64_w, i32_w];rfl
                  refine take_ (i := 14) (N := some 64) (v := ?_) (a' := ?_) #[tB,tB,tB,tB,tB,tB,tB,tB,tB,tB,tB,tB,tB,tB,tB,fB,fB,fB,fB,fB] rfl rfl (take_ofW HT_.out HW_.out (by kernel_rfl)) (fun _ _ _ h => h) (Or.inl ⟨by rfl, ?_⟩) hHeld ?_ ?_;rotate_left
                  ·rintro w' ⟨s0, s1, s2, s3, s4, s5⟩;go_simp;with_reducible rfl
                  rotate_left
                  ·simp only [Act.put, sz1, sz2, sz3, i64_w, i32_w];rfl
                  refine one_ (i := 15) (N := some 65) #[tB,tB,tB,tB,tB,tB,tB,tB,tB,tB,tB,tB,tB,tB,tB,tB,fB,fB,fB,fB] rfl rfl (one_of HT_.out (by kernel_rfl)) (by decide) (fun K hK => ?_);refine goes_ Try.func16 (by kernel_rfl) rfl #[.agg #[.int .i64 a0_0, .int .i64 a0_1, .slice A0_2 l0_2.length c0_2], .int .i64 (rd t271 x12_4), .int .i64 (rd l1 x9_2)] (by rfl) rfl rfl (by (try simp only [sm1, sm2, sm3]); first | done | rfl | (simp only [sm4, sm5]; rfl)) ?_;with_reducible refine (r4Mul.calls k4 a0_0 a0_1 _ _ l0_2 (rd t271 x12_4) (rd l1 x9_2) t280 _ ?side1 ?side2 A29.out).mono ?_
                  (case side1 => repeat (first | exact (Kd.cB HR0_2.out HB.out) | with_reducible first | refine Kd.cA ?_ _ | refine Kd.cN ?_ _ | refine Kd.cD ?_))
                  (case side2 => exact HC0_2.out)
                  rintro e w34 ⟨rfl, hb⟩;have HS3_ := (hb.cell (World.block_lt_of_cell? _ _ (hHeld.2.2.2.1))).trans (hHeld.2.2.2.1);have HS4_ := (hb.cell (World.block_lt_of_cell? _ _ (hHeld.2.2.2.2.1))).trans (hHeld.2.2.2.2.1);refine ⟨_, rfl, ?_⟩;have n0_ := Q9a.mk (Kd.R_below (by (with_reducible repeat (first | apply Kd.rA | apply Kd.rN | apply Kd.rD)); exact HO_7.out) hb);have n1_ := Q9a.mk (Kd.R_below (by (with_reducible repeat (first | apply Kd.rA | apply Kd.rN | apply Kd.rD)); exact HO_8.out) hb);have n2_ := Q9a.mk (Kd.R_below (by (with_reducible repeat (first | apply Kd.rA | apply Kd.rN | apply Kd.rD)); exact HO_10.out) hb);have n3_ := Q9a.mk (kB (g := gb269) (o := .cells #[.int .i64 a0_0, .int .i64 a0_1, .slice A0_2 l0_2.length c0_2] 24 (0, 0)) (by (with_reducible repeat (first | refine kN ?_ _ | refine kD ?_ | refine kA ?_ _)); exact BK269.out) hb);have n4_ := Q9a.mk (bP (by repeat (first | (with_reducible first | exact HB.out | apply bA | apply bN | apply bD | refine bS ?_ GE269.out) | exact HB.out)) hb);clear HO_7;clear HO_8;clear HO_10;clear BK269;clear HB;have HO_7 := n0_;have HO_8 := n1_;have HO_10 := n2_;have BK269 := n3_;have HB := n4_;clear n0_ n1_ n2_ n3_ n4_;(try clear hb)
                  (try clear hb2)
                  (try clear hk)
                  (try clear hi)
                  refine hK.out _ _ ⟨(kC BK269.out 0).trans rfl, (kC BK269.out 1).trans rfl, (kC BK269.out 2).trans rfl, HS3_, HS4_, ((HB.out.cell (World.block_lt_of_cell? w _ hw279_0)).trans hw279_0)⟩ (fun hHeld => ?_);clear hK K;refine norm_ (a' := ?_) ?_ ?_;rotate_left
                  ·show Act.put _ (some 65) _ = _
                   simp only [Act.put, sz1, sz2, sz3, i64_w, i32_w];rfl
                  refine one_ (i := 16) (N := some 66) #[tB,tB,tB,tB,tB,tB,tB,tB,tB,tB,tB,tB,tB,tB,tB,tB,tB,fB,fB,fB] rfl rfl (one_of HT_.out (by kernel_rfl)) (by decide) (fun K hK => ?_);refine goes_ Try.func31 (by kernel_rfl) rfl #[.agg #[.int .i64 a0_0, .int .i64 a0_1, .slice A0_2 l0_2.length c0_2], .int .i64 (rd x8_2 x11_3), .int .i64 t280] (by rfl) rfl rfl (by (try simp only [sm1, sm2, sm3]); first | done | rfl | (simp only [sm4, sm5]; rfl)) ?_;with_reducible refine (r4Add.calls k4 a0_0 a0_1 _ _ l0_2 (rd x8_2 x11_3) t280 t281 _ ?side1 ?side2 A30.out).mono ?_
                  (case side1 => repeat (first | exact (Kd.cB HR0_2.out HB.out) | with_reducible first | refine Kd.cA ?_ _ | refine Kd.cN ?_ _ | refine Kd.cD ?_))
                  (case side2 => exact HC0_2.out)
                  rintro e w35 ⟨rfl, hb⟩;have HS3_ := (hb.cell (World.block_lt_of_cell? _ _ (hHeld.2.2.2.1))).trans (hHeld.2.2.2.1);have HS4_ := (hb.cell (World.block_lt_of_cell? _ _ (hHeld.2.2.2.2.1))).trans (hHeld.2.2.2.2.1);refine ⟨_, rfl, ?_⟩;have n0_ := Q9a.mk (Kd.R_below (by (with_reducible repeat (first | apply Kd.rA | apply Kd.rN | apply Kd.rD)); exact HO_7.out) hb);have n1_ := Q9a.mk (Kd.R_below (by (with_reducible repeat (first | apply Kd.rA | apply Kd.rN | apply Kd.rD)); exact HO_8.out) hb);have n2_ := Q9a.mk (Kd.R_below (by (with_reducible repeat (first | apply Kd.rA | apply Kd.rN | apply Kd.rD)); exact HO_10.out) hb);have n3_ := Q9a.mk (kB (g := gb269) (o := .cells #[.int .i64 a0_0, .int .i64 a0_1, .slice A0_2 l0_2.length c0_2] 24 (0, 0)) (by (with_reducible repeat (first | refine kN ?_ _ | refine kD ?_ | refine kA ?_ _)); exact BK269.out) hb);have n4_ := Q9a.mk (bP (by repeat (first | (with_reducible first | exact HB.out | apply bA | apply bN | apply bD | refine bS ?_ GE269.out) | exact HB.out)) hb);clear HO_7;clear HO_8;clear HO_10;clear BK269;clear HB;have HO_7 := n0_;have HO_8 := n1_;have HO_10 := n2_;have BK269 := n3_;have HB := n4_;clear n0_ n1_ n2_ n3_ n4_;(try clear hb)
                  (try clear hb2)
                  (try clear hk)
                  (try clear hi)
                  refine hK.out _ _ ⟨(kC BK269.out 0).trans rfl, (kC BK269.out 1).trans rfl, (kC BK269.out 2).trans rfl, HS3_, HS4_, ((HB.out.cell (World.block_lt_of_cell? w _ hw279_0)).trans hw279_0)⟩ (fun hHeld => ?_);clear hK K;refine norm_ (a' := ?_) ?_ ?_;rotate_left
                  ·show Act.put _ (some 66) _ = _
                   simp only [Act.put, sz1, sz2, sz3, i64_w, i32_w];rfl
                  refine last_ (i := 17) (N := some 67) #[tB,tB,tB,tB,tB,tB,tB,tB,tB,tB,tB,tB,tB,tB,tB,tB,tB,tB,fB,fB] rfl rfl (one_of HT_.out (by kernel_rfl)) (by decide) (fun K hK => ?_);refine value_ (w1 := ?_) (v := ?_) (by rfl) rfl ?_ ?_;rotate_left 2
                  ·go_simp;constructor
                   ·rfl
                   rfl
                  refine hK.out _ _ ?_;clear hK K;refine norm_ (a' := ?_) ?_ ?_;rotate_left
                  ·show Act.put _ (some 67) _ = _
                   simp only [Act.put, sz1, sz2, sz3, i64_w, i32_w];rfl
                  refine last_ (i := 18) (N := some 68) #[tB,tB,tB,tB,tB,tB,tB,tB,tB,tB,tB,tB,tB,tB,tB,tB,tB,tB,tB,fB] rfl rfl (one_of HT_.out (by kernel_rfl)) (by decide) (fun K hK => ?_);refine Kd.R_append_step (Kd.int .i64) (w0 := w) w.heap.size (by rfl) (.tmp 50) (.tmp 67) 22 3 (.int .i64 0) 8 rfl Try.underlying22 info3 rfl (by decide) (by omega) u10 x10_4 t281 [.int .i64 t281] (fun k_ => some k_ ≠ (.slice (some ad278) t271.length co32 : Value).ownBlock ∧ some k_ ≠ (.slice (some ad277) x8_2.length co22 : Value).ownBlock) (fun _ => False) rfl rfl ?aP (fun _ hk => hk.elim) ?aF ?aO ?aB ?aS ?aL ?_;(case aP => exact rfl)
                  (case aB => exact (by repeat (first | (with_reducible first | exact HB.out | apply bA | apply bN | apply bD | refine bS ?_ GE269.out) | exact HB.out)))
                  (case aF => exact (fun k_ hk => ⟨Kd.fresh' (Kd.R_lt (by (with_reducible repeat (first | apply Kd.rA | apply Kd.rN | apply Kd.rD)); exact HO_7.out)) k_ hk, Kd.fresh' (Kd.R_lt (by (with_reducible repeat (first | apply Kd.rA | apply Kd.rN | apply Kd.rD)); exact HO_8.out)) k_ hk⟩))
                  (case aO => exact (by (with_reducible repeat (first | apply Kd.rA | apply Kd.rN | apply Kd.rD)); exact HO_10.out))
                  (case aS => exact (bZ (by repeat (first | (with_reducible first | exact HB.out | apply bA | apply bN | apply bD | refine bS ?_ GE269.out) | exact HB.out))))
                  (case aL => have := LMc31.out; omega)
                  intro v283 w36 ho hb hg hat;rw [← Ny282.out] at ho;have n0_ := Q9a.mk (Kd.R_after (ok := (fun k_ => some k_ ≠ (.slice (some ad277) x8_2.length co22 : Value).ownBlock)) (by (with_reducible repeat (first | apply Kd.rA | apply Kd.rN | apply Kd.rD)); exact HO_7.out) hg hat);have n1_ := Q9a.mk (Kd.R_after (ok := (fun k_ => some k_ ≠ (.slice (some ad278) t271.length co32 : Value).ownBlock)) (by (with_reducible repeat (first | apply Kd.rA | apply Kd.rN | apply Kd.rD)); exact HO_8.out) hg hat);have n2_ := Q9a.mk (blk_grown (g := gb269) (o := .cells #[.int .i64 a0_0, .int .i64 a0_1, .slice A0_2 l0_2.length c0_2] 24 (0, 0)) (by (with_reducible repeat (first | refine kN ?_ _ | refine kD ?_ | refine kA ?_ _)); exact BK269.out) hg (Kd.R_ne HO_10.out BK269.out (by decide)));have n3_ := Q9a.mk (hb);have n4_ := Q9a.mk (ho);clear HO_7;clear HO_8;clear BK269;clear HB;clear HO_10;have HO_7 := n0_;have HO_8 := n1_;have BK269 := n2_;have HB := n3_;have HO284 := n4_;clear n0_ n1_ n2_ n3_ n4_;clear ho hb hg hat;refine hK.out _ _ ?_;clear hK K;refine norm_ (a' := ?_) ?_ ?_;rotate_left
                  ·show Act.put _ (some 68) _ = _
                   simp only [Act.put, sz1, sz2, sz3, i64_w, i32_w];rfl
                  refine pQ 19 10 rfl (any_of HT_.out (by kernel_rfl)) ?_;refine done_ (done_of HT_.out (by kernel_rfl)) ?_;try go_wp2
                  go_roundg k4
                  case measure => have := HJ3.out; have := HK2.out; have := HK3.out; have := HK4.out; omega
                  case rel => exact ⟨(y282), (wrap64 (x12_4 + 1)), (by first | rfl | (simp; done) | (simp [*]; done)), H', ⟨by have := HJ3.out; have := HK2.out; have := HK3.out; have := HK4.out; omega⟩, ⟨by (with_reducible repeat (first | apply Kd.rA | apply Kd.rN | apply Kd.rD)); exact HO_7.out⟩, ⟨by (with_reducible repeat (first | apply Kd.rA | apply Kd.rN | apply Kd.rD)); exact HO_8.out⟩, ⟨by (with_reducible repeat (first | apply Kd.rA | apply Kd.rN | apply Kd.rD)); exact HO284.out⟩, ⟨by (with_reducible repeat (first | refine kN ?_ _ | refine kD ?_ | refine kA ?_ _)); exact BK269.out⟩, ⟨by repeat (first | (with_reducible first | exact HB.out | apply bA | apply bN | apply bD | refine bS ?_ GE269.out) | exact HB.out)⟩⟩
                 rw [if_neg c31] at H;exact absurd H (by simp)
                rw [if_neg c28] at H;exact absurd H (by simp)
               rw [if_neg c27] at H;exact absurd H (by simp)
              rw [if_neg c26] at H;exact absurd H (by simp)
             rw [if_neg c25] at H;exact absurd H (by simp)
            rw [if_neg c24] at H;exact absurd H (by simp)
           rw [if_neg c23] at H;have c23b0 : decide (x12_4 < (t271.length : Int)) = false := decide_eq_false c23;clear c23;have H' := Q9a.mk H;clear H;obtain ⟨Ao37, co37, eo37⟩ := Kd.R_slice HO_7.out;subst eo37;go_wp2
           go_roundg k4
           case measure => have := HJ3.out; have := HK2.out; have := HK3.out; have := HK4.out; omega
           case rel => exact ⟨(x10_4), (wrap64 (x11_3 + 1)), (by first | rfl | (simp; done) | (simp [*]; done)), H', ⟨by have := HJ3.out; have := HK2.out; have := HK3.out; have := HK4.out; omega⟩, ⟨by (with_reducible repeat (first | apply Kd.rA | apply Kd.rN | apply Kd.rD)); exact HO_7.out⟩, ⟨by (with_reducible repeat (first | apply Kd.rA | apply Kd.rN | apply Kd.rD)); exact HO_8.out⟩, ⟨by (with_reducible repeat (first | apply Kd.rA | apply Kd.rN | apply Kd.rD)); exact HO_10.out⟩, ⟨by (with_reducible repeat (first | refine kN ?_ _ | refine kD ?_ | refine kA ?_ _)); exact BK269.out⟩, ⟨by repeat (first | (with_reducible first | exact HB.out | apply bA | apply bN | apply bD | refine bS ?_ GE269.out) | exact HB.out)⟩⟩
        rw [if_neg c21] at H;have c21b0 : decide (x11_3 < (x8_2.length : Int)) = false := decide_eq_false c21;clear c21;have H' := Q9a.mk H;clear H;obtain ⟨Ao38, co38, eo38⟩ := Kd.R_slice HO_8.out;subst eo38;go_wp2
        go_roundg k3
        case measure => have := HJ3.out; have := HK2.out; have := HK3.out; omega
        case rel => exact ⟨(x10_3), (wrap64 (x9_2 + 1)), (by first | rfl | (simp; done) | (simp [*]; done)), H', ⟨by have := HJ3.out; have := HK2.out; have := HK3.out; omega⟩, ⟨by (with_reducible repeat (first | apply Kd.rA | apply Kd.rN | apply Kd.rD)); exact Kd.R_mono HO_7.out (fun _ hk => hk.2)⟩, ⟨by (with_reducible repeat (first | apply Kd.rA | apply Kd.rN | apply Kd.rD)); exact Kd.R_mono HO_10.out (fun _ hk => hk.1)⟩, ⟨by (with_reducible repeat (first | refine kN ?_ _ | refine kD ?_ | refine kA ?_ _)); exact BK269.out⟩, ⟨by repeat (first | (with_reducible first | exact HB.out | apply bA | apply bN | apply bD | refine bS ?_ GE269.out) | exact HB.out)⟩⟩
     rw [if_neg c20] at H;have c20b0 : decide (x9_2 < (l1.length : Int)) = false := decide_eq_false c20;clear c20;replace H := Option.bind_eq_some_iff.mp H;obtain ⟨t285, A390, H⟩ := H;replace H : (if 0 ≤ t285 then (if (t285 : Int).toNat ≤ 281474976710656 then (r7IsBasis.l3 k2 x8_2 (List.replicate (t285 : Int).toNat false) 0) else (none)) else (none)) = some r := H;have A39 := Q9a.mk A390;clear A390;by_cases c40 : 0 ≤ t285
     ·rw [if_pos c40] at H;have c40b0 := eq_true c40;have c40b1 : decide (0 ≤ t285) = true := decide_eq_true c40;clear c40;by_cases c41 : (t285 : Int).toNat ≤ 281474976710656
      ·rw [if_pos c41] at H;have c41b0 := eq_true c41;have c41b1 : decide ((t285 : Int).toNat ≤ 281474976710656) = true := decide_eq_true c41;clear c41;obtain ⟨y286, hy286⟩ : ∃ y_ : List Bool, y_ = (List.replicate (t285 : Int).toNat false) := ⟨_, rfl⟩;replace H : (r7IsBasis.l3 k2 x8_2 y286 0) = some r := by first | (rw [hy286]; with_reducible exact H) | (have H2_ := (Option.bind_some _ _).symm.trans H; rw [hy286]; with_reducible exact H2_) | (have H2_ := (Option.bind_some _ _).symm.trans H; with_reducible exact H2_) | with_reducible exact H | (rw [hy286]; exact H) | exact H
       have Ny286 := Q9a.mk hy286;clear hy286;have H' := Q9a.mk H;clear H;have hcz42_0 : wr.cell? ⟨gb269, 0, none⟩ = some (.int .i64 a0_0) := (kC BK269.out 0).trans rfl;have hcz42_1 : wr.cell? ⟨gb269, 1, none⟩ = some (.int .i64 a0_1) := (kC BK269.out 1).trans rfl;have hcz42_2 : wr.cell? ⟨gb269, 2, none⟩ = some (.slice A0_2 l0_2.length c0_2) := (kC BK269.out 2).trans rfl;have hfz42_0 := kF BK269.out 0;have hfz42_1 := kF BK269.out 1;have hfz42_2 := kF BK269.out 2;go_wp2_with (first | ((with_reducible refine gC (f := 29) rfl ?_); refine gL (some 71) rfl rfl Try.func29 (by kernel_rfl) rfl #[.agg #[.int .i64 a0_0, .int .i64 a0_1, .slice A0_2 l0_2.length c0_2]] rfl (by (try simp only [sm1, sm2, sm3]); first | done | rfl | (simp only [sm4, sm5]; rfl)) ?_; (with_reducible refine (r4Order.calls k2 a0_0 a0_1 _ _ l0_2 t285 _ ?side1 ?side2 A39.out).mono ?_); (case side1 => repeat (first | exact (Kd.cB HR0_2.out HB.out) | with_reducible first | refine Kd.cA ?_ _ | refine Kd.cN ?_ _ | refine Kd.cD ?_)); (case side2 => exact HC0_2.out); rintro e w43 ⟨rfl, hb⟩; refine ⟨_, rfl, ?_⟩; have n0_ := Q9a.mk (Kd.R_below (by (with_reducible repeat (first | apply Kd.rA | apply Kd.rN | apply Kd.rD)); exact HO_7.out) hb); have n1_ := Q9a.mk (Kd.R_below (by (with_reducible repeat (first | apply Kd.rA | apply Kd.rN | apply Kd.rD)); exact HO_8.out) hb); have n2_ := Q9a.mk (kB (g := gb269) (o := .cells #[.int .i64 a0_0, .int .i64 a0_1, .slice A0_2 l0_2.length c0_2] 24 (0, 0)) (by (with_reducible repeat (first | refine kN ?_ _ | refine kD ?_ | refine kA ?_ _)); exact BK269.out) hb); have n3_ := Q9a.mk (bP (by repeat (first | (with_reducible first | exact HB.out | apply bA | apply bN | apply bD | refine bS ?_ GE269.out) | exact HB.out)) hb); clear HO_7; clear HO_8; clear BK269; clear HB; have HO_7 := n0_; have HO_8 := n1_; have BK269 := n2_; have HB := n3_; clear n0_ n1_ n2_ n3_; (try clear hb); (try clear hb2); (try clear hk); (try clear hi)) | ((with_reducible refine gD (N := 72) rfl ?_); (try (refine gG (by rfl) ?_; dsimp only)); refine Kd.R_make Kd.bool _ 4 rfl (N := 72) rfl 48 _ _ rfl t285 rfl rfl Try.underlying48 (.bool false) 1 info4 rfl (by decide) (by omega) false (ok := fun _ => True) (okp := fun _ => True) rfl (fun _ hk => hk) trivial (of_decide_eq_true (by first | (with_reducible assumption) | assumption)) (Nat.le_trans (Nat.mul_le_mul_right _ (of_decide_eq_true (by first | (with_reducible assumption) | assumption) : t285.toNat ≤ 281474976710656)) (by omega)) (Below.refl _ _) (Nat.le_refl _) ?_; intro v287 w44 ho45 hb hg_ hnew_; clear hg_ hnew_; (first | rw [← Ny286.out] at ho45 | (simp only [Int.reduceToNat] at ho45; rw [← Ny286.out] at ho45)); have n0_ := Q9a.mk (Kd.R_below (by (with_reducible repeat (first | apply Kd.rA | apply Kd.rN | apply Kd.rD)); exact HO_7.out) hb); have n1_ := Q9a.mk (Kd.R_below (by (with_reducible repeat (first | apply Kd.rA | apply Kd.rN | apply Kd.rD)); exact HO_8.out) hb); have n2_ := Q9a.mk (Kd.rL ho45 (bZ (by repeat (first | (with_reducible first | exact HB.out | apply bA | apply bN | apply bD | refine bS ?_ GE269.out) | exact HB.out)))); have n3_ := Q9a.mk (kB (g := gb269) (o := .cells #[.int .i64 a0_0, .int .i64 a0_1, .slice A0_2 l0_2.length c0_2] 24 (0, 0)) (by (with_reducible repeat (first | refine kN ?_ _ | refine kD ?_ | refine kA ?_ _)); exact BK269.out) hb); have n4_ := Q9a.mk (bP (by repeat (first | (with_reducible first | exact HB.out | apply bA | apply bN | apply bD | refine bS ?_ GE269.out) | exact HB.out)) hb); clear HO_7; clear HO_8; clear BK269; clear HB; have HO_7 := n0_; have HO_8 := n1_; have HO288 := n2_; have BK269 := n3_; have HB := n4_; clear n0_ n1_ n2_ n3_ n4_; clear hb ho45))
       go_loopg [14] k2 (fun kq v14 w' => ∃ (x13_3 : List Bool) (x14_3 : Int), v14 = .int .i64 x14_3 ∧ Q9a (r7IsBasis.l3 kq x8_2 x13_3 x14_3 = some r) ∧ Q9a (kq ≤ k2) ∧ Q9a (Kd.R (Kd.int .i64) 3 w' w.heap.size (fun _ => True) u8 x8_2) ∧ Q9a (Kd.R Kd.bool 4 w' w.heap.size (fun _ => True) v287 x13_3) ∧ Q9a (w'.heap[gb269]? = some (.cells #[.int .i64 a0_0, .int .i64 a0_1, (.slice A0_2 l0_2.length c0_2)] 24 (0, 0))) ∧ Q9a (Below w.heap.size w w'))
       case atStart => exact ⟨(y286), (0), (by first | rfl | (simp; done) | (simp [*]; done)), H', ⟨Nat.le_refl _⟩, ⟨by (with_reducible repeat (first | apply Kd.rA | apply Kd.rN | apply Kd.rD)); exact Kd.R_mono HO_8.out (fun _ hk => trivial)⟩, ⟨by (with_reducible repeat (first | apply Kd.rA | apply Kd.rN | apply Kd.rD)); exact HO288.out⟩, ⟨by (with_reducible repeat (first | refine kN ?_ _ | refine kD ?_ | refine kA ?_ _)); exact BK269.out⟩, ⟨by repeat (first | (with_reducible first | exact HB.out | apply bA | apply bN | apply bD | refine bS ?_ GE269.out) | exact HB.out)⟩⟩
       case round =>
        clear H';try clear c1
        try clear c2
        try clear p2
        try clear q2
        try clear hx2
        try clear c3
        try clear c4
        try clear p6
        try clear c7
        try clear c8
        try clear c8b0
        try clear c8b1
        try clear c13
        try clear c14
        try clear c16
        try clear c20
        try clear c20b0
        try clear c21
        try clear c21b0
        try clear c23
        try clear c23b0
        try clear c24
        try clear c24b0
        try clear c25
        try clear c25b0
        try clear c26
        try clear c26b0
        try clear c27
        try clear c27b0
        try clear p27
        try clear q27
        try clear hx27
        try clear c28
        try clear c28b0
        try clear c29
        try clear c31
        try clear c40
        try clear c40b0
        try clear c40b1
        try clear c41
        try clear c41b0
        try clear c41b1
        try clear c42
        try clear hcz11_0
        try clear hcz11_1
        try clear hcz11_2
        try clear hcz12_0
        try clear hcz12_1
        try clear hcz12_2
        try clear hcz16_0
        try clear hcz16_1
        try clear hcz16_2
        try clear hcz42_0
        try clear hcz42_1
        try clear hcz42_2
        try clear hcz9_0
        try clear hcz9_1
        try clear hcz9_2
        try clear hfz11_0
        try clear hfz11_1
        try clear hfz11_2
        try clear hfz12_0
        try clear hfz12_1
        try clear hfz12_2
        try clear hfz16_0
        try clear hfz16_1
        try clear hfz16_2
        try clear hfz42_0
        try clear hfz42_1
        try clear hfz42_2
        try clear hfz9_0
        try clear hfz9_1
        try clear hfz9_2
        try clear hx277_0
        try clear hx278_0
        try clear hx279_0
        try clear p2
        try clear p277
        try clear p278
        try clear p279
        try clear p6
        try clear q277
        try clear q278
        try clear q279
        obtain ⟨x13_3, x14_3, rfl, HA, HK3, HO_8, HO_13, BK269, HB⟩ := hrel
        cases gk with
        | zero => exact absurd HA.out (by simp [r7IsBasis.l3])
        | succ k3 =>
         have H := HA.out;clear HA;simp only [r7IsBasis.l3] at H;by_cases c46 : x14_3 < (x8_2.length : Int)
         ·rw [if_pos c46] at H;have c46b0 : decide (x14_3 < (x8_2.length : Int)) = true := decide_eq_true c46;clear c46;by_cases c47 : 0 ≤ x14_3
          ·rw [if_pos c47] at H;have c47b0 : decide (0 ≤ x14_3) = true := decide_eq_true c47;clear c47;by_cases c48 : 0 ≤ (rd x8_2 x14_3)
           ·rw [if_pos c48] at H;have c48b0 : decide (0 ≤ (rd x8_2 x14_3)) = true := decide_eq_true c48;clear c48;by_cases c49 : (rd x8_2 x14_3) < (x13_3.length : Int)
            ·rw [if_pos c49] at H;have c49b0 : decide ((rd x8_2 x14_3) < (x13_3.length : Int)) = true := decide_eq_true c49;clear c49;obtain ⟨bq50, hbq50⟩ : ∃ b_ : Bool, b_ = (rdOf false x13_3 (rd x8_2 x14_3)) := ⟨_, rfl⟩;replace H : (if bq50 = true then (some false) else (r7IsBasis.l3 k3 x8_2 (x13_3.set ((rd x8_2 x14_3) : Int).toNat true) (wrap64 (x14_3 + 1)))) = some r := by rw [← hbq50] at H; exact H
             have Nbq50 := Q9a.mk hbq50;clear hbq50;by_cases c51 : bq50 = true
             ·subst c51;have H1 : (some false) = some r := by rw [if_pos rfl] at H; exact H
              clear H;have H := H1;clear H1;obtain rfl := Option.some.inj H;obtain ⟨Ao52, co52, eo52⟩ := Kd.R_slice HO_8.out;subst eo52;have p289 : 0 ≤ (x14_3 : Int) := of_decide_eq_true (by first | (with_reducible assumption) | assumption);have q289 : x14_3 < (x8_2.length : Int) := of_decide_eq_true (by first | (with_reducible assumption) | assumption);obtain ⟨ad289, e289, hx289_0⟩ := Kd.at_int (Kd.R_reads' HO_8.out).2.2 x14_3 p289 q289
              cases e289
              replace p289 := eq_true p289;replace q289 := eq_true q289;obtain ⟨Ao53, co53, eo53⟩ := Kd.R_slice HO_13.out;subst eo53;have p290 : 0 ≤ ((rd x8_2 x14_3) : Int) := of_decide_eq_true (by first | (with_reducible assumption) | assumption);have q290 : (rd x8_2 x14_3) < (x13_3.length : Int) := of_decide_eq_true (by first | (with_reducible assumption) | assumption);obtain ⟨ad290, e290, hx290_0⟩ := Kd.at_bool (Kd.R_reads' HO_13.out).2.2 (rd x8_2 x14_3) p290 q290;(try rw [← Nbq50.out] at hx290_0)
              cases e290
              replace p290 := eq_true p290;replace q290 := eq_true q290;go_wp2
              go_ret
              exact ⟨by first | rfl | (simp [*, eN, eS] <;> rfl), by repeat (first | (with_reducible first | exact HB.out | apply bA | apply bN | apply bD | refine bS ?_ GE269.out) | exact HB.out)⟩
             replace c51 := Bool.eq_false_iff.mpr c51;subst c51;have H1 : (r7IsBasis.l3 k3 x8_2 (x13_3.set ((rd x8_2 x14_3) : Int).toNat true) (wrap64 (x14_3 + 1))) = some r := by rw [if_neg (show ¬ (false = true) by decide)] at H; exact H
             clear H;have H := H1;clear H1;obtain ⟨y292, hy292⟩ : ∃ y_ : List Bool, y_ = (x13_3.set ((rd x8_2 x14_3) : Int).toNat true) := ⟨_, rfl⟩;replace H : (r7IsBasis.l3 k3 x8_2 y292 (wrap64 (x14_3 + 1))) = some r := by first | (rw [hy292]; with_reducible exact H) | (have H2_ := (Option.bind_some _ _).symm.trans H; rw [hy292]; with_reducible exact H2_) | (have H2_ := (Option.bind_some _ _).symm.trans H; with_reducible exact H2_) | with_reducible exact H | (rw [hy292]; exact H) | exact H
             have Ny292 := Q9a.mk hy292;clear hy292;have H' := Q9a.mk H;clear H;obtain ⟨Ao55, co55, eo55⟩ := Kd.R_slice HO_8.out;subst eo55;have p289 : 0 ≤ (x14_3 : Int) := of_decide_eq_true (by first | (with_reducible assumption) | assumption);have q289 : x14_3 < (x8_2.length : Int) := of_decide_eq_true (by first | (with_reducible assumption) | assumption);obtain ⟨ad289, e289, hx289_0⟩ := Kd.at_int (Kd.R_reads' HO_8.out).2.2 x14_3 p289 q289
             cases e289
             replace p289 := eq_true p289;replace q289 := eq_true q289;obtain ⟨Ao56, co56, eo56⟩ := Kd.R_slice HO_13.out;subst eo56;have p290 : 0 ≤ ((rd x8_2 x14_3) : Int) := of_decide_eq_true (by first | (with_reducible assumption) | assumption);have q290 : (rd x8_2 x14_3) < (x13_3.length : Int) := of_decide_eq_true (by first | (with_reducible assumption) | assumption);obtain ⟨ad290, e290, hx290_0⟩ := Kd.at_bool (Kd.R_reads' HO_13.out).2.2 (rd x8_2 x14_3) p290 q290;(try rw [← Nbq50.out] at hx290_0)
             cases e290
             replace p290 := eq_true p290;replace q290 := eq_true q290;have p291 : 0 ≤ (x14_3 : Int) := of_decide_eq_true (by first | (with_reducible assumption) | assumption);have q291 : x14_3 < (x8_2.length : Int) := of_decide_eq_true (by first | (with_reducible assumption) | assumption);obtain ⟨ad291, e291, hx291_0⟩ := Kd.at_int (Kd.R_reads' HO_8.out).2.2 x14_3 p291 q291;obtain rfl : ad289 = ad291 := (by injection e291);replace p291 := eq_true p291;replace q291 := eq_true q291;have p54 : 0 ≤ ((rd x8_2 x14_3) : Int) := of_decide_eq_true (by first | (with_reducible assumption) | assumption);have q54 : ((rd x8_2 x14_3) : Int) < ((x13_3.length : Int) : Int) := of_decide_eq_true (by first | (with_reducible assumption) | assumption);obtain ⟨go54, co54, eo54, gb54, gl54, cl54, HG54⟩ := Kd.R_form HO_13.out (by omega);(first | cases eo54 | (injection eo54 with ea_ en_ ec_; (first | subst ea_ | (injection ea_ with ea_; subst ea_)); subst ec_; clear en_))
             have GB54 := Q9a.mk gb54;have GG54 := Q9a.mk HG54;clear gb54 gl54 HG54;(first | simp only [add_plain] at hx290_0 | skip)
             obtain ⟨hx54_0, hf54_0⟩ := Kd.R_celln false HO_13.out ((rd x8_2 x14_3) : Int) p54 q54;replace p54 := eq_true p54;replace q54 := eq_true q54;have HP57 := Kd.R_putg HO_13.out ((rd x8_2 x14_3) : Int) true;go_wp2_with (first | ((with_reducible refine gate_store (t := 4) (p := 91) rfl ?_); refine store_event (t := 4) (p := 91) (v := ?vo_w58) (w1 := (wr.setCell ⟨go54, ((rd x8_2 x14_3) : Int).toNat, none⟩ (.bool true))) ?hg ?ho ?hn ?hr ?_; (case ho => rfl); (case hg => rfl); (case hn => rfl); (case hr => first | (go_simp; done) | (go_simp; rfl)); intro w58 hw; have hg : wr.grownBy w58 (some go54) := (by rw [hw]; exact HP57.2); have hp_ : Kd.R Kd.bool 4 w58 w.heap.size (fun _ => True) (.slice (some ⟨go54, 0, none⟩) x13_3.length co56) y292 := (by rw [hw, Ny292.out]; exact HP57.1); clear HP57; have n0_ := Q9a.mk (Kd.R_over' (v := (.slice (some ⟨go54, 0, none⟩) x13_3.length co56)) (by (with_reducible repeat (first | apply Kd.rA | apply Kd.rN | apply Kd.rD)); exact HO_8.out) (Kd.R_typed HO_13.out) (by decide) hg); have n1_ := Q9a.mk (hp_); have n2_ := Q9a.mk (blk_grown (g := gb269) (o := .cells #[.int .i64 a0_0, .int .i64 a0_1, .slice A0_2 l0_2.length c0_2] 24 (0, 0)) (by (with_reducible repeat (first | refine kN ?_ _ | refine kD ?_ | refine kA ?_ _)); exact BK269.out) hg (Kd.R_ne HO_13.out BK269.out (by decide))); have n3_ := Q9a.mk ((by rw [hw]; exact bS (HB.out) GB54.out : Below w.heap.size w w58)); clear HO_8; clear HO_13; clear BK269; clear HB; have HO_8 := n0_; have HO_13 := n1_; have BK269 := n2_; have HB := n3_; clear n0_ n1_ n2_ n3_; clear hg hw hp_))
             go_roundg k3
             case measure => have := HJ3.out; have := HK2.out; have := HK3.out; omega
             case rel => exact ⟨(y292), (wrap64 (x14_3 + 1)), (by first | rfl | (simp; done) | (simp [*]; done)), H', ⟨by have := HJ3.out; have := HK2.out; have := HK3.out; omega⟩, ⟨by (with_reducible repeat (first | apply Kd.rA | apply Kd.rN | apply Kd.rD)); exact HO_8.out⟩, ⟨by (with_reducible repeat (first | apply Kd.rA | apply Kd.rN | apply Kd.rD)); exact HO_13.out⟩, ⟨by (with_reducible repeat (first | refine kN ?_ _ | refine kD ?_ | refine kA ?_ _)); exact BK269.out⟩, ⟨by repeat (first | (with_reducible first | exact HB.out | apply bA | apply bN | apply bD | refine bS ?_ GE269.out) | exact HB.out)⟩⟩
            rw [if_neg c49] at H;exact absurd H (by simp)
           rw [if_neg c48] at H;exact absurd H (by simp)
          rw [if_neg c47] at H;exact absurd H (by simp)
         rw [if_neg c46] at H;have c46b0 : decide (x14_3 < (x8_2.length : Int)) = false := decide_eq_false c46;clear c46;obtain rfl := Option.some.inj H;obtain ⟨Ao59, co59, eo59⟩ := Kd.R_slice HO_8.out;subst eo59;go_wp2
         go_ret
         exact ⟨by first | rfl | (simp [*, eN, eS] <;> rfl), by repeat (first | (with_reducible first | exact HB.out | apply bA | apply bN | apply bD | refine bS ?_ GE269.out) | exact HB.out)⟩
      rw [if_neg c41] at H;exact absurd H (by simp)
     rw [if_neg c40] at H;exact absurd H (by simp)
end
end Go.Proofs.Ytlbddjojhcgpiaa.P
end
-- Pa9
section
namespace Go.Proofs.Ytlbddjojhcgpiaa.P
noncomputable section
open Go.RowKit Go.Proofs.Ytlbddjojhcgpiaa.Hand Go.Proofs.YtlbddjojhcgpiaaW.PrintWords Go.Proofs.YtlbddjojhcgpiaaW.PrintLast Go.Proofs.YtlbddjojhcgpiaaW.PrintMore
set_option linter.unusedVariables false
set_option linter.unusedSimpArgs false
def r7Trace.l0 : Nat → Int → Int → Int → Int → Int → Int → List Int → Option (Int)
 | 0, _, _, _, _, _, _, _ => none
 | k + 1, x1, x2, x7, x8, x294000, x294001, x294002 => if x2 = 0 then (none) else (if x8 < (wrap64 (Int.tdiv x294001 x2)) then ((r7Frobenius.f k x294000 x294001 x294002 x1 (wrap64 (x2 * x8))).bind fun t294 => ((r4Add.f k x294000 x294001 x294002 x7 t294).bind fun t295 => (r7Trace.l0 k x1 x2 t295 (wrap64 (x8 + 1)) x294000 x294001 x294002))) else (some x7))
def r7Trace.f (k : Nat) (a0_0 : Int) (a0_1 : Int) (l0_2 : List Int) (a1 : Int) (a2 : Int) : Option (Int) := r7Trace.l0 k a1 a2 0 0 a0_0 a0_1 l0_2
end
end Go.Proofs.Ytlbddjojhcgpiaa.P
end
-- Sv1
section
namespace Go.Proofs.Ytlbddjojhcgpiaa.Hand
open Go.RowKit Go.Proofs.YtlbddjojhcgpiaaW.PrintWords Go.Proofs.YtlbddjojhcgpiaaW.PrintLast Go.Proofs.YtlbddjojhcgpiaaW.PrintMore
def mrow (G : GFv) (n : Nat) (x : Nat → Cw.El G.F) : List Int := (List.range (n + 1)).map (fun j => G.num (x j))
theorem mrow_length (G : GFv) (n : Nat) (x : Nat → Cw.El G.F) : (mrow G n x).length = n + 1 := by simp [mrow]
theorem mrow_getD (G : GFv) (n : Nat) (x : Nat → Cw.El G.F) {j : Nat} (h : j < n + 1) : (mrow G n x).getD j 0 = G.num (x j) := by
 unfold mrow
 simp [List.getD, h]
theorem mrow_rd (G : GFv) (n : Nat) (x : Nat → Cw.El G.F) {j : Nat} (h : j < n + 1) : rd (mrow G n x) (j : Int) = G.num (x j) := by
 unfold rd
 rw [Int.toNat_natCast];exact mrow_getD G n x h
theorem mrow_congr (G : GFv) {n : Nat} {x y : Nat → Cw.El G.F} (h : ∀ j, j < n + 1 → x j = y j) : mrow G n x = mrow G n y := by
 unfold mrow
 refine List.map_congr_left (fun j hj => ?_);rw [h j (List.mem_range.1 hj)]
theorem mrow_set (G : GFv) (n : Nat) (x : Nat → Cw.El G.F) (j : Nat) (y : Cw.El G.F) : (mrow G n x).set j (G.num y) = mrow G n (fun t => if t = j then y else x t) := by
 apply List.ext_getElem?
 intro i;unfold mrow
 rw [List.getElem?_set];simp only [List.length_map, List.length_range, List.getElem?_map];by_cases hi : i < n + 1
 ·rw [List.getElem?_range hi];by_cases h : j = i
  ·subst h;simp [hi]
  rw [if_neg h];simp [show ¬ i = j from fun e => h e.symm]
 have hn : (List.range (n + 1))[i]? = none := List.getElem?_eq_none (by rw [List.length_range]; omega);rw [hn];by_cases h : j = i
 ·subst h;simp [hi]
 rw [if_neg h];rfl
structure MX (G : GFv) (w : World) (base R n : Nat) (rb cp : Nat → Nat) (A : Nat → Nat → Cw.El G.F) : Prop where
 hd : ∃ cells, w.heap[R]? = some (.cells cells 22 (0, 0)) ∧ ∀ i, i < n → cells[i]? = some (.slice (some ⟨rb i, 0, none⟩) (n + 1) (cp i))
 bs : base ≤ R
 row : ∀ i, i < n → Kd.R (Kd.int .i64) 3 w base (fun k => k = rb i) (.slice (some ⟨rb i, 0, none⟩) (n + 1) (cp i)) (mrow G n (A i))
 inj : ∀ i j, i < n → j < n → rb i = rb j → i = j
section
variable {G : GFv} {w w1 : World} {base R n : Nat} {rb cp : Nat → Nat} {A : Nat → Nat → Cw.El G.F}
theorem MX.hdr (h : MX G w base R n rb cp A) {i : Nat} (hi : i < n) : w.cell? ⟨R, i, none⟩ = some (.slice (some ⟨rb i, 0, none⟩) (n + 1) (cp i)) := by
 obtain ⟨cells, h1, h2⟩ := h.hd;exact (kC h1 i).trans (h2 i hi)
theorem MX.hfr (h : MX G w base R n rb cp A) (i : Nat) : w.frozen? ⟨R, i, none⟩ = false := by
 obtain ⟨cells, h1, h2⟩ := h.hd;exact kF h1 i
theorem MX.at (h : MX G w base R n rb cp A) {i j : Nat} (hi : i < n) (hj : j < n + 1) : w.cell? ⟨rb i, j, none⟩ = some (.int .i64 (G.num (A i j))) := by
 have h1 := (Kd.R_celln 0 (h.row i hi) (j : Int) (by omega) (by omega)).1;rw [Int.toNat_natCast] at h1;have h2 : rdOf 0 (mrow G n (A i)) (j : Int) = G.num (A i j) := mrow_rd G n (A i) hj;rw [h2] at h1;exact h1
theorem MX.fr (h : MX G w base R n rb cp A) {i j : Nat} (hi : i < n) (hj : j < n + 1) : w.frozen? ⟨rb i, j, none⟩ = false := by
 have h1 := (Kd.R_celln 0 (h.row i hi) (j : Int) (by omega) (by omega)).2;rw [Int.toNat_natCast] at h1;exact h1
theorem MX.rne (h : MX G w base R n rb cp A) {i : Nat} (hi : i < n) : rb i ≠ R := by
 obtain ⟨cells, h1, h2⟩ := h.hd;have := Kd.R_ne (h.row i hi) h1 (by decide);intro e;apply this
 rw [← e];rfl
theorem MX.rbase (h : MX G w base R n rb cp A) {i : Nat} (hi : i < n) : base ≤ rb i := Kd.R_base (h.row i hi) _ rfl
theorem MX.rlt (h : MX G w base R n rb cp A) {i : Nat} (hi : i < n) : rb i < w.heap.size := Kd.R_lt (h.row i hi) _ rfl
theorem MX.below (h : MX G w base R n rb cp A) (hb : Below w.heap.size w w1) : MX G w1 base R n rb cp A := by
 obtain ⟨cells, h1, h2⟩ := h.hd;exact ⟨⟨cells, kB h1 hb, h2⟩, h.bs, fun i hi => Kd.R_below (h.row i hi) hb, h.inj⟩
theorem MX.congr (h : MX G w base R n rb cp A) {B : Nat → Nat → Cw.El G.F} (he : ∀ i j, i < n → j < n + 1 → A i j = B i j) : MX G w base R n rb cp B :=
 ⟨h.hd, h.bs, fun i hi => by rw [← mrow_congr G (fun j hj => he i j hi hj)]; exact h.row i hi, h.inj⟩
theorem MX.hd_set (h : MX G w base R n rb cp A) {c p : Nat} (hc : c < n) (hp : p < n) : (w.setCell ⟨R, c, none⟩ (.slice (some ⟨rb p, 0, none⟩) (n + 1) (cp p))).cell? ⟨R, p, none⟩ = some (.slice (some ⟨rb p, 0, none⟩) (n + 1) (cp p)) := by
 obtain ⟨cells, h1, h2⟩ := h.hd;refine (kC (blk_set h1 c _) p).trans ?_;rw [Array.getElem?_setIfInBounds];by_cases e : c = p
 ·subst e;have hlt : c < cells.size := (Array.getElem?_eq_some_iff.1 (h2 c hc)).1;simp [hlt]
 rw [if_neg e];exact h2 p hp
theorem MX.hf_set (h : MX G w base R n rb cp A) (c p : Nat) (v : Value) : (w.setCell ⟨R, c, none⟩ v).frozen? ⟨R, p, none⟩ = false := by
 obtain ⟨cells, h1, h2⟩ := h.hd;exact kF (blk_set h1 c v) p
theorem MX.put (h : MX G w base R n rb cp A) {i j : Nat} (hi : i < n) (hj : j < n + 1) (y : Cw.El G.F) :
  MX G (w.setCell ⟨rb i, j, none⟩ (.int .i64 (G.num y))) base R n rb cp (fun i' t => if i' = i then (if t = j then y else A i t) else A i' t) := by
 obtain ⟨cells, h1, h2⟩ := h.hd;refine ⟨⟨cells, blk_far h1 (fun e => h.rne hi e.symm) _, h2⟩, h.bs, fun i' hi' => ?_, h.inj⟩;by_cases e : i' = i
 ·subst e;have h3 := (Kd.R_putg (h.row i' hi) (j : Int) (G.num y)).1;rw [Int.toNat_natCast, mrow_set] at h3;simp only [if_true];exact h3
 simp only [if_neg e];exact Kd.R_far (h.row i' hi') (fun k hk e2 => e (h.inj i' i hi' hi (hk.symm.trans e2))) _
theorem MX.far (h : MX G w base R n rb cp A) {g : Nat} (hR : g ≠ R) (hr : ∀ i, i < n → rb i ≠ g) (j : Nat) (v : Value) : MX G (w.setCell ⟨g, j, none⟩ v) base R n rb cp A := by
 obtain ⟨cells, h1, h2⟩ := h.hd;exact ⟨⟨cells, blk_far h1 (fun e => hR e.symm) _, h2⟩, h.bs, fun i hi => Kd.R_far (h.row i hi) (fun k hk e => hr i hi (hk.symm.trans e)) _, h.inj⟩
theorem MX.head (h : MX G w base R n rb cp A) {c : Nat} (hc : c < n) (g cg : Nat) (x : Nat → Cw.El G.F)
  (hrow : Kd.R (Kd.int .i64) 3 w base (fun k => k = g) (.slice (some ⟨g, 0, none⟩) (n + 1) cg) (mrow G n x)) (hg : ∀ i, i < n → i ≠ c → rb i ≠ g) :
  MX G (w.setCell ⟨R, c, none⟩ (.slice (some ⟨g, 0, none⟩) (n + 1) cg)) base R n (fun i => if i = c then g else rb i) (fun i => if i = c then cg else cp i) (fun i j => if i = c then x j else A i j) := by
 obtain ⟨cells, h1, h2⟩ := h.hd
 have hgR : g ≠ R := by
  have := Kd.R_ne hrow h1 (by decide);intro e;apply this
  rw [← e];rfl
 refine ⟨⟨_, blk_set h1 c _, fun i hi => ?_⟩, h.bs, fun i hi => ?_, fun i j hi hj e => ?_⟩
 ·rw [Array.getElem?_setIfInBounds];by_cases e : c = i
  ·subst e;have hlt : c < cells.size := (Array.getElem?_eq_some_iff.1 (h2 c hc)).1;simp [hlt]
  rw [if_neg e];simp only [if_neg (show ¬ i = c from fun e2 => e e2.symm)];exact h2 i hi
 ·by_cases e : i = c
  ·subst e;simp only [if_true];exact Kd.R_far hrow (fun k hk e2 => hgR (hk.symm.trans e2)) _
  simp only [if_neg e];exact Kd.R_far (h.row i hi) (fun k hk e2 => h.rne hi (hk.symm.trans e2)) _
 by_cases e1 : i = c
 ·by_cases e2 : j = c
  ·rw [e1, e2]
  simp only [if_pos e1, if_neg e2] at e;exact absurd e.symm (hg j hj e2)
 by_cases e2 : j = c
 ·simp only [if_neg e1, if_pos e2] at e;exact absurd e (hg i hi e1)
 simp only [if_neg e1, if_neg e2] at e;exact h.inj i j hi hj e
theorem MX.swap (h : MX G w base R n rb cp A) {c p : Nat} (hc : c < n) (hp : p < n) :
  ∃ rb' cp', MX G ((w.setCell ⟨R, c, none⟩ (.slice (some ⟨rb p, 0, none⟩) (n + 1) (cp p))).setCell ⟨R, p, none⟩ (.slice (some ⟨rb c, 0, none⟩) (n + 1) (cp c))) base R n rb' cp' (Cw.swp A c p) := by
 obtain ⟨cells, h1, h2⟩ := h.hd;refine ⟨fun i => if i = p then rb c else if i = c then rb p else rb i, fun i => if i = p then cp c else if i = c then cp p else cp i, ⟨⟨_, blk_set (blk_set h1 c _) p _, fun i hi => ?_⟩, h.bs, fun i hi => ?_, fun i j hi hj e => ?_⟩⟩
 ·have hlc : c < cells.size := (Array.getElem?_eq_some_iff.1 (h2 c hc)).1;have hlp : p < cells.size := (Array.getElem?_eq_some_iff.1 (h2 p hp)).1;rw [Array.getElem?_setIfInBounds, Array.getElem?_setIfInBounds];by_cases e : p = i
  ·subst e;simp [hlp]
  rw [if_neg e];simp only [if_neg (show ¬ i = p from fun e2 => e e2.symm)];by_cases e1 : c = i
  ·subst e1;simp [hlc]
  rw [if_neg e1];simp only [if_neg (show ¬ i = c from fun e2 => e1 e2.symm)];exact h2 i hi
 ·have far : ∀ i, i < n → ∀ (x : Nat → Cw.El G.F), Kd.R (Kd.int .i64) 3 w base (fun k => k = rb i) (.slice (some ⟨rb i, 0, none⟩) (n + 1) (cp i)) (mrow G n x) → Kd.R (Kd.int .i64) 3 ((w.setCell ⟨R, c, none⟩ (.slice (some ⟨rb p, 0, none⟩) (n + 1) (cp p))).setCell ⟨R, p, none⟩ (.slice (some ⟨rb c, 0, none⟩) (n + 1) (cp c))) base (fun k => k = rb i) (.slice (some ⟨rb i, 0, none⟩) (n + 1) (cp i)) (mrow G n x) := by
   intro i hi x hx;exact Kd.R_far (Kd.R_far hx (fun k hk e2 => h.rne hi (hk.symm.trans e2)) _) (fun k hk e2 => h.rne hi (hk.symm.trans e2)) _
  rw [Cw.swp_row];by_cases e : i = p
  ·subst e;simp only [if_true];by_cases e1 : i = c
   ·subst e1;rw [if_pos rfl];exact far i hi _ (h.row i hi)
   rw [if_neg e1];exact far c hc _ (h.row c hc)
  simp only [if_neg e];by_cases e1 : i = c
  ·subst e1;rw [if_pos rfl];simp only [if_true];exact far p hp _ (h.row p hp)
  simp only [if_neg e1];exact far i hi _ (h.row i hi)
 have hh : ∀ i, i < n → (if i = p then rb c else if i = c then rb p else rb i) = rb (if i = p then c else if i = c then p else i) := by
  intro i _;by_cases e1 : i = p
  ·rw [if_pos e1, if_pos e1]
  rw [if_neg e1, if_neg e1];by_cases e2 : i = c
  ·rw [if_pos e2, if_pos e2]
  rw [if_neg e2, if_neg e2]
 try simp only [] at e
 rw [hh i hi, hh j hj] at e
 have hb : ∀ i, i < n → (if i = p then c else if i = c then p else i) < n := by
  intro i hi;by_cases e1 : i = p
  ·rw [if_pos e1]; exact hc
  rw [if_neg e1];by_cases e2 : i = c
  ·rw [if_pos e2]; exact hp
  rw [if_neg e2]; exact hi
 have e3 := h.inj _ _ (hb i hi) (hb j hj) e;by_cases e1 : i = p
 ·rw [if_pos e1] at e3;by_cases e4 : j = p
  ·rw [e1, e4]
  rw [if_neg e4] at e3;by_cases e5 : j = c
  ·rw [if_pos e5] at e3; omega
  rw [if_neg e5] at e3; omega
 rw [if_neg e1] at e3;by_cases e4 : j = p
 ·rw [if_pos e4] at e3;by_cases e5 : i = c
  ·rw [if_pos e5] at e3; omega
  rw [if_neg e5] at e3; omega
 rw [if_neg e4] at e3;by_cases e5 : i = c
 ·rw [if_pos e5] at e3;by_cases e6 : j = c
  ·rw [e5, e6]
  rw [if_neg e6] at e3; omega
 rw [if_neg e5] at e3;by_cases e6 : j = c
 ·rw [if_pos e6] at e3; omega
 rw [if_neg e6] at e3; exact e3
end
theorem MX.of_S {G : GFv} {w : World} {base n : Nat} {v : Value} {rows : List (List Int)} {A : Nat → Nat → Cw.El G.F} (hn : 0 < n)
  (h : Kd.S (Kd.slice 3 (Kd.int .i64)) 22 w base (fun _ => True) v rows) (hr : rows = (List.range n).map (fun i => mrow G n (A i))) :
  ∃ R cR rb cp, v = .slice (some ⟨R, 0, none⟩) n cR ∧ MX G w base R n rb cp A := by
 have hlen : rows.length = n := by rw [hr]; simp
 have hat : ∀ i, i < n → rows[i]? = some (mrow G n (A i)) := by
  intro i hi;rw [hr];simp [hi]
 obtain ⟨f, h0, inner, ho, hreps⟩ := h;rw [List.length_zipIdx, hlen] at ho
 have hM : ∀ i, i < n → ∃ g cap, (inner.drop (i * 1)).take 1 = [.slice (some ⟨g, 0, none⟩) (n + 1) cap] ∧ f g = i ∧ Kd.R (Kd.int .i64) 3 w base (fun k => k = g) (.slice (some ⟨g, 0, none⟩) (n + 1) cap) (mrow G n (A i)) := by
  intro i hi;have h1 := hreps.2 i (mrow G n (A i), i) (Kd.zip_at (hat i hi));obtain ⟨v', hv, hR⟩ := h1;obtain ⟨g, cap, hf, -⟩ := Kd.R_form hR (by rw [mrow_length]; omega);subst hf;have hok := hR.1 g rfl;refine ⟨g, cap, by rw [← mrow_length G n (A i)]; exact hv, hok.2, ?_⟩;rw [mrow_length] at hR;refine Kd.R_mono (Kd.R_tight rfl hR) (fun k hk => ?_);injection hk
 rcases ho.2 with ⟨-, h2⟩ | ⟨R, cR, cells, rfl, hb, hh, hc⟩
 ·omega
 have hrb : ∃ rb cp : Nat → Nat, ∀ i, i < n → (inner.drop (i * 1)).take 1 = [.slice (some ⟨rb i, 0, none⟩) (n + 1) (cp i)] ∧ f (rb i) = i ∧ Kd.R (Kd.int .i64) 3 w base (fun k => k = rb i) (.slice (some ⟨rb i, 0, none⟩) (n + 1) (cp i)) (mrow G n (A i)) := by
  classical
  refine ⟨fun i => if hi : i < n then Classical.choose (hM i hi) else 0, fun i => if hi : i < n then Classical.choose (Classical.choose_spec (hM i hi)) else 0, fun i hi => ?_⟩;simp only [dif_pos hi];exact Classical.choose_spec (Classical.choose_spec (hM i hi))
 obtain ⟨rb, cp, hrb⟩ := hrb;have hsz : ((Kd.slice 3 (Kd.int .i64)).tag f |>.sz) = 1 := rfl;refine ⟨R, cR, rb, cp, rfl, ⟨⟨cells, hh, fun i hi => ?_⟩, hb, fun i hi => (hrb i hi).2.2, fun i j hi hj e => by rw [← (hrb i hi).2.1, e, (hrb j hj).2.1]⟩⟩;have h1 := (hrb i hi).1
 have h2 : inner[i]? = some (.slice (some ⟨rb i, 0, none⟩) (n + 1) (cp i)) := by
  have h3 : ((inner.drop (i * 1)).take 1)[0]? = some (.slice (some ⟨rb i, 0, none⟩) (n + 1) (cp i)) := by rw [h1]; rfl
  rw [List.getElem?_take, if_pos (by decide), List.getElem?_drop] at h3;rw [Nat.mul_one, Nat.add_zero] at h3;exact h3
 rw [← hc.2.2.2, List.getElem?_take, if_pos (by show i < n * 1; omega)] at h2;rw [← Array.getElem?_toList];exact h2
end Go.Proofs.Ytlbddjojhcgpiaa.Hand
end
-- GmInv
section
namespace Go.Proofs.Ytlbddjojhcgpiaa.Hand
noncomputable section
open Go.RowKit Go.Proofs.YtlbddjojhcgpiaaW.PrintWords
theorem gs_inv (G : GFv) (x : Int) : GS.field_GF_Inv.f (G.F.p : Int) (G.F.m : Int) G.mod (G.q : Int) G.exp G.log x = some ((G.inv x).1, (G.inv x).2, (G.F.p : Int), (G.F.m : Int), (G.q : Int)) := by
 have hq := G.q_le;have hq2 := G.q_ge;unfold GS.field_GF_Inv.f
 rw [gs_in]; simp only [Option.bind_some];unfold Cw.GFv.inv
 by_cases hx : G.inn x = 0
 ·rw [if_pos hx, if_pos (G.el_eq_zero.2 hx)]
 have hxe : G.el x ≠ 0 := fun h => hx (G.el_eq_zero.1 h)
 have ix := G.inn_is x;have lx := G.lg_spec hxe;have hlog := log_len G;have hexp := exp_len G
 rw [if_neg hx, if_neg hxe, rd_log G ix, G.el_inn, w64 (n := (G.q : Int) - 1) (by omega) (by omega), show (G.q : Int) - 1 = ((G.q - 1 : Nat) : Int) from by omega,
  show (((G.q - 1 : Nat) : Int) - (G.lg (G.el x) : Int)) = ((G.q - 1 - G.lg (G.el x) : Nat) : Int) from by omega, w64n _ (by omega), Cw.tmod_nat]
 have hlt := Nat.mod_lt (G.q - 1 - G.lg (G.el x)) (show 0 < G.q - 1 by omega);rw [if_pos ix.1, if_pos (by rw [hlog]; exact ix.2), if_neg (by omega), if_pos (by omega), if_pos (by omega), rd_exp G hlt, G.pw_mod]
 have e : Cw.pw G.gen (G.q - 1 - G.lg (G.el x)) = Cw.pw (G.el x) (G.q - 2) := by
  refine Cw.mul_cancel hxe ?_
  have h1 : G.el x * Cw.pw (G.el x) (G.q - 2) = 1 := by
   rw [Cw.mul_comm, ← Cw.pw_succ, show G.q - 2 + 1 = G.q - 1 from by omega];exact Cw.pw_card hxe
  have h2 : G.el x * Cw.pw G.gen (G.q - 1 - G.lg (G.el x)) = 1 := by
   conv => lhs; lhs; rw [← lx.2]
   rw [← Cw.pw_add, show G.lg (G.el x) + (G.q - 1 - G.lg (G.el x)) = G.q - 1 from by omega];exact G.prim.pow_one
  rw [h1, h2]
 rw [e]
def field_GF_Inv.f (a0 : GFv) (a1 : Int) : Option (Int × Int) := some (a0.inv a1)
theorem field_GF_Inv.calls (b_a0 : Nat) (a0 : GFv) (a1 : Int) (r1 : Int) (r2 : Int) (w : World) (hg0 : GFok w b_a0 a0) (h : field_GF_Inv.f a0 a1 = some (r1, r2)) :
  Calls Try.prog 68 #[.pointer (some ⟨b_a0, 0, none⟩), .int .i64 a1] w fun e w' => e = .returned (.tuple #[.int .i64 r1, .int .i64 r2]) ∧ Below w.heap.size w w' := by
 have h' := Option.some.inj h;obtain ⟨rfl, rfl⟩ : (a0.inv a1).1 = r1 ∧ (a0.inv a1).2 = r2 := by rw [h']; exact ⟨rfl, rfl⟩
 exact (GS.field_GF_Inv.calls b_a0 _ _ _ _ _ _ a1 _ _ _ _ _ w w hg0.isS (Below.refl _ _) (gs_inv a0 a1)).mono fun e w' h => ⟨h.1, h.2.2.1⟩
end
end Go.Proofs.Ytlbddjojhcgpiaa.Hand
end
