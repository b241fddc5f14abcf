/- What towerHilbert_holds needs: texts Pa8, Pa9, put together. -/
import Derived.Test.YtoambdpchjeklaaKTH7
set_option linter.unusedVariables false
set_option linter.unusedSimpArgs false
-- Pa8
section
namespace Go.Proofs.Ytoambdpchjeklaa.P
noncomputable section
open Go.RowKit Go.Proofs.Ytoambdpchjeklaa.Hand Go.Proofs.YtoambdpchjeklaaW.PrintWords Go.Proofs.YtoambdpchjeklaaW.PrintLast Go.Proofs.YtoambdpchjeklaaW.PrintMore
set_option linter.unusedVariables false
set_option linter.unusedSimpArgs false
def codewrightref04_Neg.l0 : Nat → List Int → Int → Int → Int → List Int → Option (Int)
 | 0, _, _, _, _, _ => none
 | k + 1, x5, x6, x256000, x256001, x256002 => if x6 < (x5.length : Int) then (if 0 ≤ x6 then (if x256000 = 0 then (none) else (codewrightref04_Neg.l0 k (x5.set (x6 : Int).toNat (Int.tmod (wrap64 (x256000 - (rd x5 x6))) x256000)) (wrap64 (x6 + 1)) x256000 x256001 x256002)) else (none)) else ((codewrightref04_Value.f k x256000 x256001 x256002 x5).bind fun t261 => (some t261))
def codewrightref04_Neg.f (k : Nat) (a0_0 : Int) (a0_1 : Int) (l0_2 : List Int) (a1 : Int) : Option (Int) := (codewrightref04_Digits.f k a0_0 a0_1 l0_2 a1).bind fun t256 => (codewrightref04_Neg.l0 k t256 0 a0_0 a0_1 l0_2)
def codewrightref04_Neg.T5 : Bool × List (List Nat × List Nat) := (true, [([], []), ([], []), ([], []), ([2], [2]), ([], []), ([], []), ([4, 5], [4, 5]), ([6], [6]), ([3, 7], [3, 7]), ([], []), ([9], [9]), ([8, 10], [8, 10]), ([0, 1, 0, 1, 2, 3, 4, 5, 6, 7, 8, 9, 10, 11], [0, 1]), ([12, 11, 0, 1, 2, 3, 4, 5, 6, 7, 8, 9, 10, 11], [11, 12])])
def codewrightref04_Neg.B5 : List Nat := [0, 0, 0, 4, 0, 0, 48, 112, 252, 0, 512, 2044, 4095, 8191]
theorem codewrightref04_Neg.tab5 : rtab .any (opsOf Try.f27 5) = codewrightref04_Neg.T5 := by kernel_rfl
theorem codewrightref04_Neg.bits5 : waitsOk codewrightref04_Neg.T5.2 codewrightref04_Neg.B5 = true := by kernel_rfl
set_option maxHeartbeats 8000000 in
set_option maxRecDepth 100000 in
theorem codewrightref04_Neg.calls (k : Nat) (a0_0 : Int) (a0_1 : Int) (A0_2 : Option Addr) (c0_2 : Nat) (l0_2 : List Int) (a1 : Int) (r : Int) (w : World) (hr0_2 : Kd.C (Kd.int .i64) w A0_2 l0_2.length l0_2) (hc0_2 : l0_2.length ≤ c0_2) (h : codewrightref04_Neg.f k a0_0 a0_1 l0_2 a1 = some r) :
  Calls Try.prog 27 #[.agg #[.int .i64 a0_0, .int .i64 a0_1, .slice A0_2 l0_2.length c0_2], .int .i64 a1] w fun e w' => e = .returned (.int .i64 r) ∧ Below w.heap.size w w' := by
 have hu24 := Try.underlying24
 have HR0_2 := Aside0.mk hr0_2
 have HC0_2 := Aside0.mk hc0_2
 clear hr0_2 hc0_2
 have HB := Aside0.mk (Below.refl w.heap.size w)
 have H : ((codewrightref04_Digits.f k a0_0 a0_1 l0_2 a1).bind fun t256 => (codewrightref04_Neg.l0 k t256 0 a0_0 a0_1 l0_2)) = some r := h
 clear h
 replace H := Option.bind_eq_some_iff.mp H
 obtain ⟨t256, A30, H⟩ := H
 replace H : (codewrightref04_Neg.l0 k t256 0 a0_0 a0_1 l0_2) = some r := H
 have A3 := Aside0.mk A30
 clear A30
 have H' := Aside0.mk H
 clear H
 go_enter Try.func27, Try.ntmps27
 go_wp2_with (first | ((with_reducible refine gate_dst (N := 2) rfl ?_); refine box_event ?hg (N := 2) ?hd (cs := #[.int .i64 a0_0, .int .i64 a0_1, .slice A0_2 l0_2.length c0_2]) (t := 24) ?hr ?_; (case hd => rfl); (case hg => rfl); (case hr => first | (go_simp; done) | (go_simp; rfl)); intro gb255 hg w4 hbox hb; have n0_ := Aside0.mk (bP (by repeat (first | (with_reducible first | exact HB.out | apply bA | apply bN | apply bD) | exact HB.out)) hb); have n1_ := Aside0.mk (hbox); have n2_ := Aside0.mk ((by rw [hg]; exact (bZ (by repeat (first | (with_reducible first | exact HB.out | apply bA | apply bN | apply bD) | exact HB.out))) : w.heap.size ≤ gb255)); have n3_ := Aside0.mk ((by rw [hg]; exact (bZ (by repeat (first | (with_reducible first | exact HB.out | apply bA | apply bN | apply bD) | exact HB.out))) : w.heap.size ≤ gb255)); clear HB; have HB := n0_; have BK255 := n1_; have GW255 := n2_; have GE255 := n3_; clear n0_ n1_ n2_ n3_; clear hb hbox hg; have hcz5_0 : w4.cell? ⟨gb255, 0, none⟩ = some (.int .i64 a0_0) := (kC BK255.out 0).trans rfl; have hcz5_1 : w4.cell? ⟨gb255, 1, none⟩ = some (.int .i64 a0_1) := (kC BK255.out 1).trans rfl; have hcz5_2 : w4.cell? ⟨gb255, 2, none⟩ = some (.slice A0_2 l0_2.length c0_2) := (kC BK255.out 2).trans rfl; have hfz5_0 := kF BK255.out 0; have hfz5_1 := kF BK255.out 1; have hfz5_2 := kF BK255.out 2) | ((with_reducible refine gate_callee (f := 43) rfl ?_); refine goesL_ (some 9) rfl rfl Try.func43 (by kernel_rfl) rfl #[.agg #[.int .i64 a0_0, .int .i64 a0_1, .slice A0_2 l0_2.length c0_2], .int .i64 a1] rfl (by (try simp only [List.map_toArray, List.map_cons, List.map_nil]); first | done | rfl | (simp only [List.length_drop, List.length_take]; rfl)) ?_; (with_reducible refine (codewrightref04_Digits.calls k a0_0 a0_1 _ _ l0_2 a1 t256 _ ?side1 ?side2 A3.out).mono ?_); (case side1 => repeat (first | exact (Kd.C_below HR0_2.out HB.out) | (with_reducible refine Kd.C_alloc ?_ _) | (with_reducible refine Kd.C_drewN ?_ _) | (with_reducible refine Kd.C_drew ?_))); (case side2 => exact HC0_2.out); rintro e w6 ⟨v257, rfl, ho0, hb⟩; refine ⟨_, rfl, ?_⟩; have n0_ := Aside0.mk (Kd.R_lower ho0 (bZ (by repeat (first | (with_reducible first | exact HB.out | apply bA | apply bN | apply bD | refine bS ?_ GE255.out) | exact HB.out)))); have n1_ := Aside0.mk (kB (g := gb255) (o := .cells #[.int .i64 a0_0, .int .i64 a0_1, .slice A0_2 l0_2.length c0_2] 24 (0, 0)) (by (with_reducible repeat (first | refine kN ?_ _ | refine kD ?_ | refine kA ?_ _)); exact BK255.out) hb); have n2_ := Aside0.mk (bP (by repeat (first | (with_reducible first | exact HB.out | apply bA | apply bN | apply bD | refine bS ?_ GE255.out) | exact HB.out)) hb); clear BK255; clear HB; have HO258 := n0_; have BK255 := n1_; have HB := n2_; clear n0_ n1_ n2_; (try clear hb); (try clear hb2); (try clear hk); (try clear hi); (try clear ho0)))
 go_loopg [6] k (fun kq v6 w' => ∃ (x5_1 : List Int) (x6_1 : Int), v6 = .int .i64 x6_1 ∧ Aside0 (codewrightref04_Neg.l0 kq x5_1 x6_1 a0_0 a0_1 l0_2 = some r) ∧ Aside0 (kq ≤ k) ∧ Aside0 (Kd.R (Kd.int .i64) 3 w' w.heap.size (fun _ => True) v257 x5_1) ∧ Aside0 (w'.heap[gb255]? = some (.cells #[.int .i64 a0_0, .int .i64 a0_1, (.slice A0_2 l0_2.length c0_2)] 24 (0, 0))) ∧ Aside0 (Below w.heap.size w w'))
 case atStart => exact ⟨(t256), (0), (by first | rfl | (simp; done) | (simp [*]; done)), H', ⟨Nat.le_refl _⟩, ⟨by (with_reducible repeat (first | apply Kd.R_alloc | apply Kd.R_drewN | apply Kd.R_drew)); exact HO258.out⟩, ⟨by (with_reducible repeat (first | refine kN ?_ _ | refine kD ?_ | refine kA ?_ _)); exact BK255.out⟩, ⟨by repeat (first | (with_reducible first | exact HB.out | apply bA | apply bN | apply bD | refine bS ?_ GE255.out) | exact HB.out)⟩⟩
 case round =>
  clear H'
  try clear c2
  try clear p2
  try clear c4
  try clear hcz5_0
  try clear hcz5_1
  try clear hcz5_2
  try clear hfz5_0
  try clear hfz5_1
  try clear hfz5_2
  obtain ⟨x5_1, x6_1, rfl, HA, HK1, HO_5, BK255, HB⟩ := hrel
  cases gk with
  | zero => exact absurd HA.out (by simp [codewrightref04_Neg.l0])
  | succ k1 =>
   have H := HA.out
   clear HA
   simp only [codewrightref04_Neg.l0] at H
   by_cases c7 : x6_1 < (x5_1.length : Int)
   ·rw [if_pos c7] at H
    have c7b0 : decide (x6_1 < (x5_1.length : Int)) = true := decide_eq_true c7
    clear c7
    by_cases c8 : 0 ≤ x6_1
    ·rw [if_pos c8] at H
     have c8b0 : decide (0 ≤ x6_1) = true := decide_eq_true c8
     clear c8
     by_cases c9 : a0_0 = 0
     ·rw [if_pos c9] at H
      exact absurd H (by simp)
     ·rw [if_neg c9] at H
      have c9b0 : (a0_0 == 0) = false := beq_eq_false_iff_ne.mpr c9
      have c9b1 : (a0_0 != 0) = true := bne_iff_ne.mpr c9
      obtain ⟨y260, hy260⟩ : ∃ y_ : List Int, y_ = (x5_1.set (x6_1 : Int).toNat (Int.tmod (wrap64 (a0_0 - (rd x5_1 x6_1))) a0_0)) := ⟨_, rfl⟩
      replace H : (codewrightref04_Neg.l0 k1 y260 (wrap64 (x6_1 + 1)) a0_0 a0_1 l0_2) = some r := by first | (rw [hy260]; with_reducible exact H) | (have H2_ := (Option.bind_some _ _).symm.trans H; rw [hy260]; with_reducible exact H2_) | (have H2_ := (Option.bind_some _ _).symm.trans H; with_reducible exact H2_) | with_reducible exact H | (rw [hy260]; exact H) | exact H
      have Ny260 := Aside0.mk hy260
      clear hy260
      have H' := Aside0.mk H
      clear H
      obtain ⟨Ao11, co11, eo11⟩ := Kd.R_slice HO_5.out
      subst eo11
      try go_wp2
      have n0_ := Aside0.mk (Kd.R_drew HO_5.out)
      have n1_ := Aside0.mk (kD BK255.out)
      have n2_ := Aside0.mk (bD HB.out)
      clear HO_5
      clear BK255
      clear HB
      have HO_5 := n0_
      have BK255 := n1_
      have HB := n2_
      clear n0_ n1_ n2_
      have p259 : 0 ≤ (x6_1 : Int) := of_decide_eq_true (by first | (with_reducible assumption) | assumption)
      have q259 : x6_1 < (x5_1.length : Int) := of_decide_eq_true (by first | (with_reducible assumption) | assumption)
      obtain ⟨ad259, e259, hx259_0⟩ := Kd.at_int (Kd.R_reads' HO_5.out).2.2 x6_1 p259 q259
      cases e259
      replace p259 := eq_true p259
      replace q259 := eq_true q259
      have p10 : 0 ≤ (x6_1 : Int) := of_decide_eq_true (by first | (with_reducible assumption) | assumption)
      have q10 : (x6_1 : Int) < ((x5_1.length : Int) : Int) := of_decide_eq_true (by first | (with_reducible assumption) | assumption)
      obtain ⟨go10, co10, eo10, gb10, gl10, cl10, HG10⟩ := Kd.R_form HO_5.out (by omega)
      (first | cases eo10 | (injection eo10 with ea_ en_ ec_; (first | subst ea_ | (injection ea_ with ea_; subst ea_)); subst ec_; clear en_))
      have GB10 := Aside0.mk gb10
      have GG10 := Aside0.mk HG10
      clear gb10 gl10 HG10
      (first | simp only [add_plain] at hx259_0 | skip)
      obtain ⟨hx10_0, hf10_0⟩ := Kd.R_celln 0 HO_5.out (x6_1 : Int) p10 q10
      replace p10 := eq_true p10
      replace q10 := eq_true q10
      have HP13 := Kd.R_putn HO_5.out (x6_1 : Int) (Int.tmod (wrap64 (a0_0 - (rd x5_1 x6_1))) a0_0)
      rw [← Ny260.out] at HP13
      have HQ13 := Aside0.mk HP13
      clear HP13
      refine start_ (n := 14) (S := fun w' => w'.cell? ⟨gb255, 0, none⟩ = some (.int .i64 a0_0) ∧ w'.cell? ⟨gb255, 1, none⟩ = some (.int .i64 a0_1) ∧ w'.cell? ⟨gb255, 2, none⟩ = some (.slice A0_2 l0_2.length c0_2) ∧ w'.cell? ⟨go10, (x6_1).toNat, none⟩ = some (.int .i64 (rd x5_1 x6_1))) (ds := [13]) #[false, false, false, false, false, false, false, false, false, false, false, false, false, false] (by kernel_rfl) rfl rfl ⟨(kC BK255.out 0).trans rfl, (kC BK255.out 1).trans rfl, (kC BK255.out 2).trans rfl, hx259_0⟩ (fun hHeld => ?_); refine with_tabW codewrightref04_Neg.tab5 codewrightref04_Neg.bits5 (fun HT_ HW_ => ?_)
      generalize wr.drew = w12 at HO_5 BK255 HB GG10 HQ13 hf10_0 hx10_0 hx259_0 hHeld ⊢
      refine pure_ (i := 0) (N := some 16) (v := ?_) (a' := ?_) #[true, false, false, false, false, false, false, false, false, false, false, false, false, false] rfl rfl (any_of HT_.out (by kernel_rfl)) (fun _ _ _ h => h) (Or.inl ⟨by rfl, ?_⟩) ?_ ?_
      rotate_left
      ·intro w'
       go_simp
       with_reducible rfl
      rotate_left
      ·simp only [Act.put, List.setIfInBounds_toArray, List.set_cons_zero, List.set_cons_succ, i64_w, i32_w]
       rfl
      refine pure_ (i := 1) (N := some 17) (v := ?_) (a' := ?_) #[true, true, false, false, false, false, false, false, false, false, false, false, false, false] rfl rfl (any_of HT_.out (by kernel_rfl)) (fun _ _ _ h => h) (Or.inl ⟨by rfl, ?_⟩) ?_ ?_
      rotate_left
      ·intro w'
       go_simp
       with_reducible rfl
      rotate_left
      ·simp only [Act.put, List.setIfInBounds_toArray, List.set_cons_zero, List.set_cons_succ, i64_w, i32_w]
       rfl
      refine pure_ (i := 2) (N := some 18) (v := ?_) (a' := ?_) #[true, true, true, false, false, false, false, false, false, false, false, false, false, false] rfl rfl (any_of HT_.out (by kernel_rfl)) (fun _ _ _ h => h) (Or.inl ⟨by rfl, ?_⟩) ?_ ?_
      rotate_left
      ·intro w'
       go_simp
       with_reducible rfl
      rotate_left
      ·simp only [Act.put, List.setIfInBounds_toArray, List.set_cons_zero, List.set_cons_succ, i64_w, i32_w]
       rfl
      refine pure_ (i := 4) (N := some 20) (v := ?_) (a' := ?_) #[true, true, true, false, true, false, false, false, false, false, false, false, false, false] rfl rfl (any_of HT_.out (by kernel_rfl)) (fun _ _ _ h => h) (Or.inl ⟨by rfl, ?_⟩) ?_ ?_
      rotate_left
      ·intro w'
       go_simp
       with_reducible rfl
      rotate_left
      ·simp only [Act.put, List.setIfInBounds_toArray, List.set_cons_zero, List.set_cons_succ, i64_w, i32_w]
       rfl
      refine pure_ (i := 5) (N := some 21) (v := ?_) (a' := ?_) #[true, true, true, false, true, true, false, false, false, false, false, false, false, false] rfl rfl (any_of HT_.out (by kernel_rfl)) (fun _ _ _ h => h) (Or.inl ⟨by rfl, ?_⟩) ?_ ?_
      rotate_left
      ·intro w'
       go_simp
       with_reducible rfl
      rotate_left
      ·simp only [Act.put, List.setIfInBounds_toArray, List.set_cons_zero, List.set_cons_succ, i64_w, i32_w]
       rfl
      refine pure_ (i := 6) (N := some 22) (v := ?_) (a' := ?_) #[true, true, true, false, true, true, true, false, false, false, false, false, false, false] rfl rfl (any_of HT_.out (by kernel_rfl)) (fun _ _ _ h => h) (Or.inl ⟨by rfl, ?_⟩) ?_ ?_
      rotate_left
      ·intro w'
       go_simp
       with_reducible rfl
      rotate_left
      ·simp only [Act.put, List.setIfInBounds_toArray, List.set_cons_zero, List.set_cons_succ, i64_w, i32_w]
       rfl
      refine pure_ (i := 9) (N := some 25) (v := ?_) (a' := ?_) #[true, true, true, false, true, true, true, false, false, true, false, false, false, false] rfl rfl (any_of HT_.out (by kernel_rfl)) (fun _ _ _ h => h) (Or.inl ⟨by rfl, ?_⟩) ?_ ?_
      rotate_left
      ·intro w'
       go_simp
       with_reducible rfl
      rotate_left
      ·simp only [Act.put, List.setIfInBounds_toArray, List.set_cons_zero, List.set_cons_succ, i64_w, i32_w]
       rfl
      refine take_ (i := 3) (N := some 19) (v := ?_) (a' := ?_) #[true, true, true, true, true, true, true, false, false, true, false, false, false, false] rfl rfl (take_ofW HT_.out HW_.out (by kernel_rfl)) (fun _ _ _ h => h) (Or.inl ⟨by rfl, ?_⟩) hHeld ?_ ?_
      rotate_left
      ·rintro w' ⟨s0, s1, s2, s3⟩
       go_simp
       with_reducible rfl
      rotate_left
      ·simp only [Act.put, List.setIfInBounds_toArray, List.set_cons_zero, List.set_cons_succ, i64_w, i32_w]
       rfl
      refine take_ (i := 7) (N := some 23) (v := ?_) (a' := ?_) #[true, true, true, true, true, true, true, true, false, true, false, false, false, false] rfl rfl (take_ofW HT_.out HW_.out (by kernel_rfl)) (fun _ _ _ h => h) (Or.inl ⟨by rfl, ?_⟩) hHeld ?_ ?_
      rotate_left
      ·rintro w' ⟨s0, s1, s2, s3⟩
       go_simp
       with_reducible rfl
      rotate_left
      ·simp only [Act.put, List.setIfInBounds_toArray, List.set_cons_zero, List.set_cons_succ, i64_w, i32_w]
       rfl
      refine pure_ (i := 8) (N := some 24) (v := ?_) (a' := ?_) #[true, true, true, true, true, true, true, true, true, true, false, false, false, false] rfl rfl (any_of HT_.out (by kernel_rfl)) (fun _ _ _ h => h) (Or.inl ⟨by rfl, ?_⟩) ?_ ?_
      rotate_left
      ·intro w'
       go_simp
       with_reducible rfl
      rotate_left
      ·simp only [Act.put, List.setIfInBounds_toArray, List.set_cons_zero, List.set_cons_succ, i64_w, i32_w]
       rfl
      refine take_ (i := 10) (N := some 26) (v := ?_) (a' := ?_) #[true, true, true, true, true, true, true, true, true, true, true, false, false, false] rfl rfl (take_ofW HT_.out HW_.out (by kernel_rfl)) (fun _ _ _ h => h) (Or.inl ⟨by rfl, ?_⟩) hHeld ?_ ?_
      rotate_left
      ·rintro w' ⟨s0, s1, s2, s3⟩
       go_simp
       with_reducible rfl
      rotate_left
      ·simp only [Act.put, List.setIfInBounds_toArray, List.set_cons_zero, List.set_cons_succ, i64_w, i32_w]
       rfl
      refine pure_ (i := 11) (N := some 27) (v := ?_) (a' := ?_) #[true, true, true, true, true, true, true, true, true, true, true, true, false, false] rfl rfl (any_of HT_.out (by kernel_rfl)) (fun _ _ _ h => h) (Or.inl ⟨by rfl, ?_⟩) ?_ ?_
      rotate_left
      ·intro w'
       go_simp
       with_reducible rfl
      rotate_left
      ·simp only [Act.put, List.setIfInBounds_toArray, List.set_cons_zero, List.set_cons_succ, i64_w, i32_w]
       rfl
      refine pure_ (i := 12) (N := some 28) (v := ?_) (a' := ?_) #[true, true, true, true, true, true, true, true, true, true, true, true, true, false] rfl rfl (any_of HT_.out (by kernel_rfl)) (fun _ _ _ h => h) (Or.inl ⟨by rfl, ?_⟩) ?_ ?_
      rotate_left
      ·intro w'
       go_simp
       with_reducible rfl
      rotate_left
      ·simp only [Act.put, List.setIfInBounds_toArray, List.set_cons_zero, List.set_cons_succ, i64_w, i32_w]
       rfl
      refine last_ (i := 13) (N := none) #[true, true, true, true, true, true, true, true, true, true, true, true, true, true] rfl rfl (one_of HT_.out (by kernel_rfl)) (by decide) (fun K hK => ?_)
      refine skip_ (w1 := ?_) (by rfl) rfl ?_ ?_
      rotate_left
      ·go_simp
       rfl
      refine hK.out _ _ ?_
      clear hK K
      refine done_ (done_of HT_.out (by kernel_rfl)) ?_
      try go_wp2
      go_roundg k1
      case measure => have := HK1.out; omega
      case rel => exact ⟨(y260), (wrap64 (x6_1 + 1)), (by first | rfl | (simp; done) | (simp [*]; done)), H', ⟨by have := HK1.out; omega⟩, ⟨by (with_reducible repeat (first | apply Kd.R_alloc | apply Kd.R_drewN | apply Kd.R_drew)); exact HQ13.out⟩, ⟨by (with_reducible repeat (first | refine kN ?_ _ | refine kD ?_ | refine kA ?_ _)); refine blk_far ?_ (by have h_ := Kd.R_ne HO_5.out BK255.out (by decide); intro e_; exact h_ (by rw [e_]; rfl)) _; (with_reducible repeat (first | refine kN ?_ _ | refine kD ?_ | refine kA ?_ _)); exact BK255.out⟩, ⟨by repeat (first | (with_reducible first | exact HB.out | apply bA | apply bN | apply bD | refine bS ?_ GB10.out | refine bS ?_ GE255.out) | exact HB.out)⟩⟩
    ·rw [if_neg c8] at H
     exact absurd H (by simp)
   ·rw [if_neg c7] at H
    have c7b0 : decide (x6_1 < (x5_1.length : Int)) = false := decide_eq_false c7
    clear c7
    replace H := Option.bind_eq_some_iff.mp H
    obtain ⟨t261, A140, H⟩ := H
    replace H : (some t261) = some r := H
    have A14 := Aside0.mk A140
    clear A140
    obtain rfl := Option.some.inj H
    obtain ⟨Ao15, co15, eo15⟩ := Kd.R_slice HO_5.out
    subst eo15
    have hcz16_0 : wr.cell? ⟨gb255, 0, none⟩ = some (.int .i64 a0_0) := (kC BK255.out 0).trans rfl
    have hcz16_1 : wr.cell? ⟨gb255, 1, none⟩ = some (.int .i64 a0_1) := (kC BK255.out 1).trans rfl
    have hcz16_2 : wr.cell? ⟨gb255, 2, none⟩ = some (.slice A0_2 l0_2.length c0_2) := (kC BK255.out 2).trans rfl
    have hfz16_0 := kF BK255.out 0
    have hfz16_1 := kF BK255.out 1
    have hfz16_2 := kF BK255.out 2
    go_wp2_with (first | ((with_reducible refine gate_callee (f := 44) rfl ?_); refine goesL_ (some 31) rfl rfl Try.func44 (by kernel_rfl) rfl #[.agg #[.int .i64 a0_0, .int .i64 a0_1, .slice A0_2 l0_2.length c0_2], .slice Ao15 x5_1.length co15] rfl (by (try simp only [List.map_toArray, List.map_cons, List.map_nil]); first | done | rfl | (simp only [List.length_drop, List.length_take]; rfl)) ?_; (with_reducible refine (codewrightref04_Value.calls k1 a0_0 a0_1 _ _ l0_2 _ _ x5_1 t261 _ ?side1 ?side2 ?side3 ?side4 A14.out).mono ?_); (case side1 => repeat (first | exact (Kd.C_below HR0_2.out HB.out) | (with_reducible refine Kd.C_alloc ?_ _) | (with_reducible refine Kd.C_drewN ?_ _) | (with_reducible refine Kd.C_drew ?_))); (case side2 => exact HC0_2.out); (case side3 => repeat (first | exact (Kd.R_reads' HO_5.out).2.2 | (with_reducible refine Kd.C_alloc ?_ _) | (with_reducible refine Kd.C_drewN ?_ _) | (with_reducible refine Kd.C_drew ?_))); (case side4 => exact (Kd.R_reads' HO_5.out).2.1); rintro e w17 ⟨rfl, hb⟩; refine ⟨_, rfl, ?_⟩; have n0_ := Aside0.mk (Kd.R_below (by (with_reducible repeat (first | apply Kd.R_alloc | apply Kd.R_drewN | apply Kd.R_drew)); exact HO_5.out) hb); have n1_ := Aside0.mk (kB (g := gb255) (o := .cells #[.int .i64 a0_0, .int .i64 a0_1, .slice A0_2 l0_2.length c0_2] 24 (0, 0)) (by (with_reducible repeat (first | refine kN ?_ _ | refine kD ?_ | refine kA ?_ _)); exact BK255.out) hb); have n2_ := Aside0.mk (bP (by repeat (first | (with_reducible first | exact HB.out | apply bA | apply bN | apply bD | refine bS ?_ GE255.out) | exact HB.out)) hb); clear HO_5; clear BK255; clear HB; have HO_5 := n0_; have BK255 := n1_; have HB := n2_; clear n0_ n1_ n2_; (try clear hb); (try clear hb2); (try clear hk); (try clear hi)))
    go_ret
    exact ⟨by first | rfl | (simp [eN, eS] <;> rfl) | (simp [*, eN, eS] <;> rfl), by repeat (first | (with_reducible first | exact HB.out | apply bA | apply bN | apply bD | refine bS ?_ GE255.out) | exact HB.out)⟩
def codewrightref07_Trace.l0 : Nat → Int → Int → Int → Int → Int → Int → List Int → Option (Int)
 | 0, _, _, _, _, _, _, _ => none
 | k + 1, x1, x2, x7, x8, x266000, x266001, x266002 => if x2 = 0 then (none) else (if x8 < (wrap64 (Int.tdiv x266001 x2)) then ((codewrightref07_Frobenius.f k x266000 x266001 x266002 x1 (wrap64 (x2 * x8))).bind fun t266 => ((codewrightref04_Add.f k x266000 x266001 x266002 x7 t266).bind fun t267 => (codewrightref07_Trace.l0 k x1 x2 t267 (wrap64 (x8 + 1)) x266000 x266001 x266002))) else (some x7))
def codewrightref07_Trace.f (k : Nat) (a0_0 : Int) (a0_1 : Int) (l0_2 : List Int) (a1 : Int) (a2 : Int) : Option (Int) := codewrightref07_Trace.l0 k a1 a2 0 0 a0_0 a0_1 l0_2
end
end Go.Proofs.Ytoambdpchjeklaa.P
end
-- Pa9
section
namespace Go.Proofs.Ytoambdpchjeklaa.P
noncomputable section
open Go.RowKit Go.Proofs.Ytoambdpchjeklaa.Hand Go.Proofs.YtoambdpchjeklaaW.PrintWords Go.Proofs.YtoambdpchjeklaaW.PrintLast Go.Proofs.YtoambdpchjeklaaW.PrintMore
set_option linter.unusedVariables false
set_option linter.unusedSimpArgs false
def codewrightref04_Sub.f (k : Nat) (a0_0 : Int) (a0_1 : Int) (l0_2 : List Int) (a1 : Int) (a2 : Int) : Option (Int) := (codewrightref04_Neg.f k a0_0 a0_1 l0_2 a2).bind fun t289 => ((codewrightref04_Add.f k a0_0 a0_1 l0_2 a1 t289).bind fun t290 => (some t290))
set_option maxHeartbeats 8000000 in
set_option maxRecDepth 100000 in
theorem codewrightref04_Sub.calls (k : Nat) (a0_0 : Int) (a0_1 : Int) (A0_2 : Option Addr) (c0_2 : Nat) (l0_2 : List Int) (a1 : Int) (a2 : Int) (r : Int) (w : World) (hr0_2 : Kd.C (Kd.int .i64) w A0_2 l0_2.length l0_2) (hc0_2 : l0_2.length ≤ c0_2) (h : codewrightref04_Sub.f k a0_0 a0_1 l0_2 a1 a2 = some r) :
  Calls Try.prog 36 #[.agg #[.int .i64 a0_0, .int .i64 a0_1, .slice A0_2 l0_2.length c0_2], .int .i64 a1, .int .i64 a2] w fun e w' => e = .returned (.int .i64 r) ∧ Below w.heap.size w w' := by
 have hu24 := Try.underlying24
 have HR0_2 := Aside0.mk hr0_2
 have HC0_2 := Aside0.mk hc0_2
 clear hr0_2 hc0_2
 have HB := Aside0.mk (Below.refl w.heap.size w)
 have H : ((codewrightref04_Neg.f k a0_0 a0_1 l0_2 a2).bind fun t289 => ((codewrightref04_Add.f k a0_0 a0_1 l0_2 a1 t289).bind fun t290 => (some t290))) = some r := h
 clear h
 replace H := Option.bind_eq_some_iff.mp H
 obtain ⟨t289, A40, H⟩ := H
 replace H : ((codewrightref04_Add.f k a0_0 a0_1 l0_2 a1 t289).bind fun t290 => (some t290)) = some r := H
 have A4 := Aside0.mk A40
 clear A40
 replace H := Option.bind_eq_some_iff.mp H
 obtain ⟨t290, A50, H⟩ := H
 replace H : (some t290) = some r := H
 have A5 := Aside0.mk A50
 clear A50
 obtain rfl := Option.some.inj H
 go_enter Try.func36, Try.ntmps36
 try go_wp2_with (first | ((with_reducible refine gate_dst (N := 3) rfl ?_); refine box_event ?hg (N := 3) ?hd (cs := #[.int .i64 a0_0, .int .i64 a0_1, .slice A0_2 l0_2.length c0_2]) (t := 24) ?hr ?_; (case hd => rfl); (case hg => rfl); (case hr => first | (go_simp; done) | (go_simp; rfl)); intro gb288 hg w6 hbox hb; have n0_ := Aside0.mk (bP (by repeat (first | (with_reducible first | exact HB.out | apply bA | apply bN | apply bD) | exact HB.out)) hb); have n1_ := Aside0.mk (hbox); have n2_ := Aside0.mk ((by rw [hg]; exact (bZ (by repeat (first | (with_reducible first | exact HB.out | apply bA | apply bN | apply bD) | exact HB.out))) : w.heap.size ≤ gb288)); have n3_ := Aside0.mk ((by rw [hg]; exact (bZ (by repeat (first | (with_reducible first | exact HB.out | apply bA | apply bN | apply bD) | exact HB.out))) : w.heap.size ≤ gb288)); clear HB; have HB := n0_; have BK288 := n1_; have GW288 := n2_; have GE288 := n3_; clear n0_ n1_ n2_ n3_; clear hb hbox hg))
 have n0_ := Aside0.mk (kD BK288.out)
 have n1_ := Aside0.mk (bD HB.out)
 clear BK288
 clear HB
 have BK288 := n0_
 have HB := n1_
 clear n0_ n1_
 refine start_ (n := 7) (S := fun w' => w'.cell? ⟨gb288, 0, none⟩ = some (.int .i64 a0_0) ∧ w'.cell? ⟨gb288, 1, none⟩ = some (.int .i64 a0_1) ∧ w'.cell? ⟨gb288, 2, none⟩ = some (.slice A0_2 l0_2.length c0_2)) (ds := []) #[false, false, false, false, false, false, false] (by kernel_rfl) rfl rfl ⟨(kC BK288.out 0).trans rfl, (kC BK288.out 1).trans rfl, (kC BK288.out 2).trans rfl⟩ (fun hHeld => ?_)
 generalize w6.drew = w7 at BK288 HB hHeld ⊢
 refine pure_ (i := 1) (N := some 8) (v := ?_) (a' := ?_) #[false, true, false, false, false, false, false] rfl rfl (by kernel_rfl) (fun _ _ _ h => h) (Or.inl ⟨by rfl, ?_⟩) ?_ ?_
 rotate_left
 ·intro w'
  go_simp
  with_reducible rfl
 rotate_left
 ·simp only [Act.put, List.setIfInBounds_toArray, List.set_cons_zero, List.set_cons_succ, i64_w, i32_w]
  rfl
 refine pure_ (i := 3) (N := some 10) (v := ?_) (a' := ?_) #[false, true, false, true, false, false, false] rfl rfl (by kernel_rfl) (fun _ _ _ h => h) (Or.inl ⟨by rfl, ?_⟩) ?_ ?_
 rotate_left
 ·intro w'
  go_simp
  with_reducible rfl
 rotate_left
 ·simp only [Act.put, List.setIfInBounds_toArray, List.set_cons_zero, List.set_cons_succ, i64_w, i32_w]
  rfl
 refine take_ (i := 0) (N := some 7) (v := ?_) (a' := ?_) #[true, true, false, true, false, false, false] rfl rfl (by kernel_rfl) (fun _ _ _ h => h) (Or.inl ⟨by rfl, ?_⟩) hHeld ?_ ?_
 rotate_left
 ·rintro w' ⟨s0, s1, s2⟩
  go_simp
  with_reducible rfl
 rotate_left
 ·simp only [Act.put, List.setIfInBounds_toArray, List.set_cons_zero, List.set_cons_succ, i64_w, i32_w]
  rfl
 refine take_ (i := 2) (N := some 9) (v := ?_) (a' := ?_) #[true, true, true, true, false, false, false] rfl rfl (by kernel_rfl) (fun _ _ _ h => h) (Or.inl ⟨by rfl, ?_⟩) hHeld ?_ ?_
 rotate_left
 ·rintro w' ⟨s0, s1, s2⟩
  go_simp
  with_reducible rfl
 rotate_left
 ·simp only [Act.put, List.setIfInBounds_toArray, List.set_cons_zero, List.set_cons_succ, i64_w, i32_w]
  rfl
 refine one_ (i := 4) (N := some 11) #[true, true, true, true, true, false, false] rfl rfl (by kernel_rfl) (by decide) (fun K hK => ?_)
 refine goes_ Try.func27 (by kernel_rfl) rfl #[.agg #[.int .i64 a0_0, .int .i64 a0_1, .slice A0_2 l0_2.length c0_2], .int .i64 a2] (by rfl) rfl rfl (by (try simp only [List.map_toArray, List.map_cons, List.map_nil]); first | done | rfl | (simp only [List.length_drop, List.length_take]; rfl)) ?_
 with_reducible refine (codewrightref04_Neg.calls k a0_0 a0_1 _ _ l0_2 a2 t289 _ ?side1 ?side2 A4.out).mono ?_
 (case side1 => repeat (first | exact (Kd.C_below HR0_2.out HB.out) | (with_reducible refine Kd.C_alloc ?_ _) | (with_reducible refine Kd.C_drewN ?_ _) | (with_reducible refine Kd.C_drew ?_)))
 (case side2 => exact HC0_2.out)
 rintro e w8 ⟨rfl, hb⟩
 refine ⟨_, rfl, ?_⟩
 have n0_ := Aside0.mk (kB (g := gb288) (o := .cells #[.int .i64 a0_0, .int .i64 a0_1, .slice A0_2 l0_2.length c0_2] 24 (0, 0)) (by (with_reducible repeat (first | refine kN ?_ _ | refine kD ?_ | refine kA ?_ _)); exact BK288.out) hb)
 have n1_ := Aside0.mk (bP (by repeat (first | (with_reducible first | exact HB.out | apply bA | apply bN | apply bD | refine bS ?_ GE288.out) | exact HB.out)) hb)
 clear BK288
 clear HB
 have BK288 := n0_
 have HB := n1_
 clear n0_ n1_
 (try clear hb)
 (try clear hb2)
 (try clear hk)
 (try clear hi)
 refine hK.out _ _ ⟨(kC BK288.out 0).trans rfl, (kC BK288.out 1).trans rfl, (kC BK288.out 2).trans rfl⟩ (fun hHeld => ?_)
 clear hK K
 refine norm_ (a' := ?_) ?_ ?_
 rotate_left
 ·show Act.put _ (some 11) _ = _
  simp only [Act.put, List.setIfInBounds_toArray, List.set_cons_zero, List.set_cons_succ, i64_w, i32_w]
  rfl
 refine one_ (i := 5) (N := some 12) #[true, true, true, true, true, true, false] rfl rfl (by kernel_rfl) (by decide) (fun K hK => ?_)
 refine goes_ Try.func17 (by kernel_rfl) rfl #[.agg #[.int .i64 a0_0, .int .i64 a0_1, .slice A0_2 l0_2.length c0_2], .int .i64 a1, .int .i64 t289] (by rfl) rfl rfl (by (try simp only [List.map_toArray, List.map_cons, List.map_nil]); first | done | rfl | (simp only [List.length_drop, List.length_take]; rfl)) ?_
 with_reducible refine (codewrightref04_Add.calls k a0_0 a0_1 _ _ l0_2 a1 t289 t290 _ ?side1 ?side2 A5.out).mono ?_
 (case side1 => repeat (first | exact (Kd.C_below HR0_2.out HB.out) | (with_reducible refine Kd.C_alloc ?_ _) | (with_reducible refine Kd.C_drewN ?_ _) | (with_reducible refine Kd.C_drew ?_)))
 (case side2 => exact HC0_2.out)
 rintro e w9 ⟨rfl, hb⟩
 refine ⟨_, rfl, ?_⟩
 have n0_ := Aside0.mk (kB (g := gb288) (o := .cells #[.int .i64 a0_0, .int .i64 a0_1, .slice A0_2 l0_2.length c0_2] 24 (0, 0)) (by (with_reducible repeat (first | refine kN ?_ _ | refine kD ?_ | refine kA ?_ _)); exact BK288.out) hb)
 have n1_ := Aside0.mk (bP (by repeat (first | (with_reducible first | exact HB.out | apply bA | apply bN | apply bD | refine bS ?_ GE288.out) | exact HB.out)) hb)
 clear BK288
 clear HB
 have BK288 := n0_
 have HB := n1_
 clear n0_ n1_
 (try clear hb)
 (try clear hb2)
 (try clear hk)
 (try clear hi)
 refine hK.out _ _ ⟨(kC BK288.out 0).trans rfl, (kC BK288.out 1).trans rfl, (kC BK288.out 2).trans rfl⟩ (fun hHeld => ?_)
 clear hK K
 refine norm_ (a' := ?_) ?_ ?_
 rotate_left
 ·show Act.put _ (some 12) _ = _
  simp only [Act.put, List.setIfInBounds_toArray, List.set_cons_zero, List.set_cons_succ, i64_w, i32_w]
  rfl
 refine pure_ (i := 6) (N := some 6) (v := ?_) (a' := ?_) #[true, true, true, true, true, true, true] rfl rfl (by kernel_rfl) (fun _ _ _ h => h) (Or.inl ⟨by rfl, ?_⟩) ?_ ?_
 rotate_left
 ·intro w'
  go_simp
  with_reducible rfl
 rotate_left
 ·simp only [Act.put, List.setIfInBounds_toArray, List.set_cons_zero, List.set_cons_succ, i64_w, i32_w]
  rfl
 refine done_ (by kernel_rfl) ?_
 try go_wp2
 go_ret
 exact ⟨by first | rfl | (simp [eN, eS] <;> rfl) | (simp [*, eN, eS] <;> rfl), by repeat (first | (with_reducible first | exact HB.out | apply bA | apply bN | apply bD | refine bS ?_ GE288.out) | exact HB.out)⟩
end
end Go.Proofs.Ytoambdpchjeklaa.P
end
