/- What dlogZech_holds needs: texts Pb2, Q1, GmOrder, Pb4, put together. -/
import Derived.Test.YtbohbfggmnjpdaaKLZ7
set_option linter.unusedVariables false
set_option linter.unusedSimpArgs false
-- Pb2
section
namespace Go.Proofs.Ytbohbfggmnjpdaa.P
noncomputable section
open Go.RowKit Go.Proofs.Ytbohbfggmnjpdaa.Hand Go.Proofs.YtbohbfggmnjpdaaW.PrintWords Go.Proofs.YtbohbfggmnjpdaaW.PrintLast Go.Proofs.YtbohbfggmnjpdaaW.PrintMore
set_option linter.unusedVariables false
set_option linter.unusedSimpArgs false
mutual
def number_Factor.l0 : Nat → Int → List (S87) → Option ((List (S87)) × Int)
 | 0, _, _ => none
 | k + 1, x0, x4 => if x0 > 1 then ((number_least.f x0).bind fun t126 => (number_Factor.l1 k x0 x4 t126 t126 0)) else (some (x4, 0))
def number_Factor.l1 : Nat → Int → List (S87) → Int → Int → Int → Option ((List (S87)) × Int)
 | 0, _, _, _, _, _ => none
 | k + 1, x0, x4, x5, x128000, x128001 => if x5 = 0 then (none) else (if (Int.tmod x0 x5) = 0 then (number_Factor.l1 k (wrap64 (Int.tdiv x0 x5)) x4 x5 x128000 (wrap64 (x128001 + 1))) else (if x4.length < 8796093022208 then (number_Factor.l0 k x0 (x4 ++ [(⟨x128000, x128001⟩ : S87)])) else (none)))
end
def number_Factor.f (k : Nat) (a0 : Int) : Option ((List (S87)) × Int) := (number_in.f a0 1).bind fun t125 => (if t125 = true then (number_Factor.l0 k a0 ([] : List (S87))) else (some (([] : List (S87)), 6)))
set_option maxHeartbeats 8000000 in
set_option maxRecDepth 100000 in
theorem number_Factor.calls (k : Nat) (a0 : Int) (r1 : List (S87)) (r2 : Int) (w : World) (h : number_Factor.f k a0 = some (r1, r2)) :
  Calls Try.prog 62 #[.int .i64 a0] w fun e w' => ∃ v0_ : Value, e = .returned (.tuple #[v0_, .int .i64 r2]) ∧ Kd.R k87 87 w' w.heap.size (fun _ => True) v0_ r1 ∧ Below w.heap.size w w' := by
 have hu87 := Try.underlying87
 have HB := Q9a.mk (Below.refl w.heap.size w)
 have H : ((number_in.f a0 1).bind fun t125 => (if t125 = true then (number_Factor.l0 k a0 ([] : List (S87))) else (some (([] : List (S87)), 6)))) = some (r1, r2) := h
 clear h
 replace H := Option.bind_eq_some_iff.mp H
 obtain ⟨t125, A20, H⟩ := H
 replace H : (if t125 = true then (number_Factor.l0 k a0 ([] : List (S87))) else (some (([] : List (S87)), 6))) = some (r1, r2) := H
 have A2 := Q9a.mk A20
 clear A20
 by_cases c3 : t125 = true
 ·subst c3
  have H1 : (number_Factor.l0 k a0 ([] : List (S87))) = some (r1, r2) := by rw [if_pos rfl] at H; exact H
  clear H
  have H := H1
  clear H1
  have H' := Q9a.mk H
  clear H
  go_enter Try.func62, Try.ntmps62
  go_wp2_with (first | ((with_reducible refine gate_callee (f := 69) rfl ?_); refine goesL_ (some 8) rfl rfl Try.func69 (by kernel_rfl) rfl #[.int .i64 a0, .int .i64 1] rfl (by (try simp only [List.map_toArray, List.map_cons, List.map_nil]); first | done | rfl | (simp only [List.length_drop, List.length_take]; rfl)) ?_; (with_reducible refine (number_in.calls a0 1 true _ A2.out).mono ?_); rintro e w' ⟨rfl, ⟨nd, rfl⟩⟩; refine ⟨_, rfl, ?_⟩))
  go_loopg [0, 4] k (fun kq v0 v4 w' => ∃ (x0_1 : Int) (x4_1 : List (S87)), v0 = .int .i64 x0_1 ∧ Q9a (number_Factor.l0 kq x0_1 x4_1 = some (r1, r2)) ∧ Q9a (kq ≤ k) ∧ Q9a (Kd.R k87 87 w' w.heap.size (fun _ => True) v4 x4_1) ∧ Q9a (Below w.heap.size w w'))
  case atStart => exact ⟨(a0), (([] : List (S87))), (by first | rfl | (simp; done) | (simp [*]; done)), H', ⟨Nat.le_refl _⟩, ⟨by first | exact Kd.R_nil _ _ _ _ _ | exact Kd.N_nil _ _ _ _ _ | exact Kd.V_nil _ _ _ _ _ | exact Kd.Q_nil _ _ _ _ _ | exact Kd.S_nil _ _ _ _ _⟩, ⟨by repeat (first | (with_reducible first | exact HB.out | apply bA | apply bN | apply bD) | exact HB.out)⟩⟩
  case round =>
   clear H'
   try clear p2
   try clear c3
   obtain ⟨x0_1, x4_1, rfl, HA, HK1, HO_4, HB⟩ := hrel
   cases gk with
   | zero => exact absurd HA.out (by simp [number_Factor.l0])
   | succ k1 =>
    have H := HA.out
    clear HA
    simp only [number_Factor.l0] at H
    by_cases c4 : x0_1 > 1
    ·rw [if_pos c4] at H
     have c4b0 : decide (1 < x0_1) = true := decide_eq_true c4
     clear c4
     replace H := Option.bind_eq_some_iff.mp H
     obtain ⟨t126, A50, H⟩ := H
     replace H : (number_Factor.l1 k1 x0_1 x4_1 t126 t126 0) = some (r1, r2) := H
     have A5 := Q9a.mk A50
     clear A50
     have H' := Q9a.mk H
     clear H
     go_wp2_with (first | ((with_reducible refine gate_callee (f := 70) rfl ?_); refine goesL_ (some 13) rfl rfl Try.func70 (by kernel_rfl) rfl #[.int .i64 x0_1] rfl (by (try simp only [List.map_toArray, List.map_cons, List.map_nil]); first | done | rfl | (simp only [List.length_drop, List.length_take]; rfl)) ?_; (with_reducible refine (number_least.calls x0_1 t126 _ A5.out).mono ?_); rintro e w6 ⟨rfl, hb⟩; refine ⟨_, rfl, ?_⟩; have n0_ := Q9a.mk (Kd.R_below (by (with_reducible repeat (first | apply Kd.R_alloc | apply Kd.R_drewN | apply Kd.R_drew)); exact HO_4.out) hb); have n1_ := Q9a.mk (bP (by repeat (first | (with_reducible first | exact HB.out | apply bA | apply bN | apply bD) | exact HB.out)) hb); clear HO_4; clear HB; have HO_4 := n0_; have HB := n1_; clear n0_ n1_; (try clear hb); (try clear hb2); (try clear hk); (try clear hi)) | ((with_reducible refine gate_dst (N := 6) rfl ?_); refine box_event ?hg (N := 6) ?hd (cs := #[.int .i64 0, .int .i64 0]) (t := 87) ?hr ?_; (case hd => rfl); (case hg => rfl); (case hr => first | (go_simp; done) | (go_simp; rfl)); intro gb127 hg w7 hbox hb; have n0_ := Q9a.mk (Kd.R_below (Kd.R_elderB (by (with_reducible repeat (first | apply Kd.R_alloc | apply Kd.R_drewN | apply Kd.R_drew)); exact HO_4.out) gb127 (Nat.le_of_eq hg.symm)) hb); have n1_ := Q9a.mk (bP (by repeat (first | (with_reducible first | exact HB.out | apply bA | apply bN | apply bD) | exact HB.out)) hb); have n2_ := Q9a.mk (hbox); have n3_ := Q9a.mk ((by rw [hg]; exact (bZ (by repeat (first | (with_reducible first | exact HB.out | apply bA | apply bN | apply bD) | exact HB.out))) : w.heap.size ≤ gb127)); have n4_ := Q9a.mk ((by rw [hg]; exact (bZ (by repeat (first | (with_reducible first | exact HB.out | apply bA | apply bN | apply bD) | exact HB.out))) : w.heap.size ≤ gb127)); clear HO_4; clear HB; have HO_4 := n0_; have HB := n1_; have BK127 := n2_; have GW127 := n3_; have GE127 := n4_; clear n0_ n1_ n2_ n3_ n4_; clear hb hbox hg; have hcz8_0 : w7.cell? ⟨gb127, 0, none⟩ = some (.int .i64 0) := (kC BK127.out 0).trans rfl; have hcz8_1 : w7.cell? ⟨gb127, 1, none⟩ = some (.int .i64 0) := (kC BK127.out 1).trans rfl; have hfz8_0 := kF BK127.out 0; have hfz8_1 := kF BK127.out 1))
     go_loopg [0] k1 (fun kq v0 w' => ∃ (x0_2 : Int) (x128001_2 : Int), v0 = .int .i64 x0_2 ∧ Q9a (number_Factor.l1 kq x0_2 x4_1 t126 t126 x128001_2 = some (r1, r2)) ∧ Q9a (kq ≤ k1) ∧ Q9a (Kd.R k87 87 w' w.heap.size (fun k_ => k_ ≠ gb127) u4 x4_1) ∧ Q9a (w'.heap[gb127]? = some (.cells #[.int .i64 t126, .int .i64 x128001_2] 87 (0, 0))) ∧ Q9a (Below w.heap.size w w'))
     case atStart => exact ⟨(x0_1), (0), (by first | rfl | (simp; done) | (simp [*]; done)), H', ⟨Nat.le_refl _⟩, ⟨by (with_reducible repeat (first | apply Kd.R_alloc | apply Kd.R_drewN | apply Kd.R_drew)); exact Kd.R_mono (Kd.R_far (p := ⟨gb127, 1, none⟩) (Kd.R_far (p := ⟨gb127, 0, none⟩) (Kd.R_mono HO_4.out (fun k_ hk => (⟨hk, hk.2⟩ : _ ∧ k_ ≠ gb127))) (fun _ hk => hk.2) (.int .i64 t126)) (fun _ hk => hk.2) (.int .i64 0)) (fun _ hk => hk.1.2)⟩, ⟨by (with_reducible repeat (first | refine kN ?_ _ | refine kD ?_ | refine kA ?_ _)); refine blk_put (cs := #[.int .i64 t126, .int .i64 0]) ?_ 1 _ rfl; (with_reducible repeat (first | refine kN ?_ _ | refine kD ?_ | refine kA ?_ _)); refine blk_put (cs := #[.int .i64 0, .int .i64 0]) ?_ 0 _ rfl; (with_reducible repeat (first | refine kN ?_ _ | refine kD ?_ | refine kA ?_ _)); exact BK127.out⟩, ⟨by repeat (first | (with_reducible first | exact HB.out | apply bA | apply bN | apply bD | refine bS ?_ GE127.out) | exact HB.out)⟩⟩
     case round =>
      clear H'
      try clear p2
      try clear c3
      try clear c4
      try clear c4b0
      try clear c6
      try clear c7
      try clear hcz8_0
      try clear hcz8_1
      try clear hfz8_0
      try clear hfz8_1
      try clear p2
      obtain ⟨x0_2, x128001_2, rfl, HA, HK2, HO_4, BK127, HB⟩ := hrel
      cases gk with
      | zero => exact absurd HA.out (by simp [number_Factor.l1])
      | succ k2 =>
       have H := HA.out
       clear HA
       simp only [number_Factor.l1] at H
       by_cases c9 : t126 = 0
       ·rw [if_pos c9] at H
        exact absurd H (by simp)
       ·rw [if_neg c9] at H
        have c9b0 : (t126 == 0) = false := beq_eq_false_iff_ne.mpr c9
        have c9b1 : (t126 != 0) = true := bne_iff_ne.mpr c9
        by_cases c10 : (Int.tmod x0_2 t126) = 0
        ·rw [if_pos c10] at H
         have c10b0 : ((Int.tmod x0_2 t126) == 0) = true := beq_iff_eq.mpr c10
         have c10b1 : ((Int.tmod x0_2 t126) != 0) = false := bne_eq_false_iff_eq.mpr c10
         clear c10
         have H' := Q9a.mk H
         clear H
         have hcz11_0 : wr.cell? ⟨gb127, 0, none⟩ = some (.int .i64 t126) := (kC BK127.out 0).trans rfl
         have hcz11_1 : wr.cell? ⟨gb127, 1, none⟩ = some (.int .i64 x128001_2) := (kC BK127.out 1).trans rfl
         have hfz11_0 := kF BK127.out 0
         have hfz11_1 := kF BK127.out 1
         go_wp2
         go_roundg k2
         case measure => have := HK1.out; have := HK2.out; omega
         case rel => exact ⟨(wrap64 (Int.tdiv x0_2 t126)), (wrap64 (x128001_2 + 1)), (by first | rfl | (simp; done) | (simp [*]; done)), H', ⟨by have := HK1.out; have := HK2.out; omega⟩, ⟨by (with_reducible repeat (first | apply Kd.R_alloc | apply Kd.R_drewN | apply Kd.R_drew)); exact Kd.R_mono (Kd.R_far (p := ⟨gb127, 1, none⟩) (Kd.R_mono HO_4.out (fun k_ hk => (⟨hk, hk⟩ : _ ∧ k_ ≠ gb127))) (fun _ hk => hk.2) (.int .i64 (wrap64 (x128001_2 + 1)))) (fun _ hk => hk.1)⟩, ⟨by (with_reducible repeat (first | refine kN ?_ _ | refine kD ?_ | refine kA ?_ _)); refine blk_put (cs := #[.int .i64 t126, .int .i64 x128001_2]) ?_ 1 _ rfl; (with_reducible repeat (first | refine kN ?_ _ | refine kD ?_ | refine kA ?_ _)); exact BK127.out⟩, ⟨by repeat (first | (with_reducible first | exact HB.out | apply bA | apply bN | apply bD | refine bS ?_ GE127.out) | exact HB.out)⟩⟩
        ·rw [if_neg c10] at H
         have c10b0 : ((Int.tmod x0_2 t126) == 0) = false := beq_eq_false_iff_ne.mpr c10
         have c10b1 : ((Int.tmod x0_2 t126) != 0) = true := bne_iff_ne.mpr c10
         by_cases c12 : x4_1.length < 8796093022208
         ·rw [if_pos c12] at H
          have LMc12 := Q9a.mk c12
          clear c12
          obtain ⟨y128, hy128⟩ : ∃ y_ : List (S87), y_ = (x4_1 ++ [(⟨t126, x128001_2⟩ : S87)]) := ⟨_, rfl⟩
          replace H : (number_Factor.l0 k2 x0_2 y128) = some (r1, r2) := by first | (rw [hy128]; with_reducible exact H) | (have H2_ := (Option.bind_some _ _).symm.trans H; rw [hy128]; with_reducible exact H2_) | (have H2_ := (Option.bind_some _ _).symm.trans H; with_reducible exact H2_) | with_reducible exact H | (rw [hy128]; exact H) | exact H
          have Ny128 := Q9a.mk hy128
          clear hy128
          have H' := Q9a.mk H
          clear H
          have hcz13_0 : wr.cell? ⟨gb127, 0, none⟩ = some (.int .i64 t126) := (kC BK127.out 0).trans rfl
          have hcz13_1 : wr.cell? ⟨gb127, 1, none⟩ = some (.int .i64 x128001_2) := (kC BK127.out 1).trans rfl
          have hfz13_0 := kF BK127.out 0
          have hfz13_1 := kF BK127.out 1
          go_wp2_with (first | ((with_reducible refine gate_builtin (b := .append) (xs := #[.tmp 27, .tmp 29]) rfl ?_); at_builtin; refine Kd.R_append k87 (w0 := w) w.heap.size rfl (.tmp 27) (.tmp 29) 83 87 (.agg #[(.int .i64 0), (.int .i64 0)]) 16 rfl Try.underlying83 info87 rfl (by decide) (by omega) u4 x4_1 (⟨t126, x128001_2⟩ : S87) [.int .i64 t126, .int .i64 x128001_2] (fun k_ => k_ ≠ gb127) (fun _ => False) rfl rfl ?aP (fun _ hk => hk.elim) ?aF ?aO ?aB ?aS ?aL ?_; (case aP => exact k87_mkM _ _ _ (⟨t126, x128001_2⟩ : S87)); (case aB => exact (by repeat (first | (with_reducible first | exact HB.out | apply bA | apply bN | apply bD | refine bS ?_ GE127.out) | exact HB.out))); (case aF => exact (fun k_ hk => Kd.freshB (g := gb127) (o := .cells #[.int .i64 t126, .int .i64 x128001_2] 87 (0, 0)) (by (with_reducible repeat (first | refine kN ?_ _ | refine kD ?_ | refine kA ?_ _)); exact BK127.out) k_ hk)); (case aO => exact (by (with_reducible repeat (first | apply Kd.R_alloc | apply Kd.R_drewN | apply Kd.R_drew)); exact HO_4.out)); (case aS => exact (bZ (by repeat (first | (with_reducible first | exact HB.out | apply bA | apply bN | apply bD | refine bS ?_ GE127.out) | exact HB.out)))); (case aL => have := LMc12.out; omega); intro v129 w14 ho hb hg hat; rw [← Ny128.out] at ho; have n0_ := Q9a.mk (blk_grown (g := gb127) (o := .cells #[.int .i64 t126, .int .i64 x128001_2] 87 (0, 0)) (by (with_reducible repeat (first | refine kN ?_ _ | refine kD ?_ | refine kA ?_ _)); exact BK127.out) hg (Kd.R_away HO_4.out (fun _ hk => hk))); have n1_ := Q9a.mk (hb); have n2_ := Q9a.mk (ho); clear BK127; clear HB; clear HO_4; have BK127 := n0_; have HB := n1_; have HO130 := n2_; clear n0_ n1_ n2_; clear ho hb hg hat))
          go_roundg k2
          case measure => have := HK1.out; have := HK2.out; omega
          case rel => exact ⟨(x0_2), (y128), (by first | rfl | (simp; done) | (simp [*]; done)), H', ⟨by have := HK1.out; have := HK2.out; omega⟩, ⟨by (with_reducible repeat (first | apply Kd.R_alloc | apply Kd.R_drewN | apply Kd.R_drew)); exact Kd.R_mono HO130.out (fun _ hk => trivial)⟩, ⟨by repeat (first | (with_reducible first | exact HB.out | apply bA | apply bN | apply bD | refine bS ?_ GE127.out) | exact HB.out)⟩⟩
         ·rw [if_neg c12] at H
          exact absurd H (by simp)
    ·rw [if_neg c4] at H
     have c4b0 : decide (1 < x0_1) = false := decide_eq_false c4
     clear c4
     simp only [Option.some.injEq, Prod.mk.injEq] at H
     obtain ⟨rfl, rfl⟩ := H
     go_wp2
     go_ret2
     exact ⟨_, by first | rfl | (simp [eN, eS] <;> rfl) | (simp [*, eN, eS] <;> rfl), by (with_reducible repeat (first | apply Kd.R_alloc | apply Kd.R_drewN | apply Kd.R_drew)); exact HO_4.out, by repeat (first | (with_reducible first | exact HB.out | apply bA | apply bN | apply bD) | exact HB.out)⟩
 ·replace c3 := Bool.eq_false_iff.mpr c3
  subst c3
  have H1 : (some (([] : List (S87)), 6)) = some (r1, r2) := by rw [if_neg (show ¬ (false = true) by decide)] at H; exact H
  clear H
  have H := H1
  clear H1
  simp only [Option.some.injEq, Prod.mk.injEq] at H
  obtain ⟨rfl, rfl⟩ := H
  go_enter Try.func62, Try.ntmps62
  go_wp2_with (first | ((with_reducible refine gate_callee (f := 69) rfl ?_); refine goesL_ (some 8) rfl rfl Try.func69 (by kernel_rfl) rfl #[.int .i64 a0, .int .i64 1] rfl (by (try simp only [List.map_toArray, List.map_cons, List.map_nil]); first | done | rfl | (simp only [List.length_drop, List.length_take]; rfl)) ?_; (with_reducible refine (number_in.calls a0 1 false _ A2.out).mono ?_); rintro e w' ⟨rfl, ⟨nd, rfl⟩⟩; refine ⟨_, rfl, ?_⟩))
  go_ret2
  exact ⟨_, by first | rfl | (simp [eN, eS] <;> rfl) | (simp [*, eN, eS] <;> rfl), by first | exact Kd.R_nil _ _ _ _ _ | exact Kd.N_nil _ _ _ _ _ | exact Kd.V_nil _ _ _ _ _ | exact Kd.Q_nil _ _ _ _ _ | exact Kd.S_nil _ _ _ _ _, by repeat (first | (with_reducible first | exact HB.out | apply bA | apply bN | apply bD) | exact HB.out)⟩
def dlog_primes.l0 : Nat → List Int → List (S87) → Int → Int → Option (List Int)
 | 0, _, _, _, _ => none
 | k + 1, x5, x16, x17, x18 => if x18 < x17 then (if 0 ≤ x18 then (if x18 < (x16.length : Int) then (if x18 < (x5.length : Int) then (dlog_primes.l0 k (x5.set (x18 : Int).toNat ((rd_T87 x16 x18).f0)) x16 x17 (wrap64 (x18 + 1))) else (none)) else (none)) else (none)) else (some x5)
def dlog_primes.f (k : Nat) (a0 : Int) : Option (List Int) := (number_Factor.f k a0).bind fun bt131 => (if 0 ≤ (bt131.1.length : Int) then (if ((bt131.1.length : Int) : Int).toNat ≤ 35184372088832 then (dlog_primes.l0 k (List.replicate ((bt131.1.length : Int) : Int).toNat 0) bt131.1 (bt131.1.length : Int) 0) else (none)) else (none))
set_option maxHeartbeats 8000000 in
set_option maxRecDepth 100000 in
theorem dlog_primes.calls (k : Nat) (a0 : Int) (r : List Int) (w : World) (h : dlog_primes.f k a0 = some r) :
  Calls Try.prog 43 #[.int .i64 a0] w fun e w' => ∃ v0_ : Value, e = .returned (v0_) ∧ Kd.R (Kd.int .i64) 3 w' w.heap.size (fun _ => True) v0_ r ∧ Below w.heap.size w w' := by
 have hu87 := Try.underlying87
 have HB := Q9a.mk (Below.refl w.heap.size w)
 have H : ((number_Factor.f k a0).bind fun bt131 => (if 0 ≤ (bt131.1.length : Int) then (if ((bt131.1.length : Int) : Int).toNat ≤ 35184372088832 then (dlog_primes.l0 k (List.replicate ((bt131.1.length : Int) : Int).toNat 0) bt131.1 (bt131.1.length : Int) 0) else (none)) else (none))) = some r := h
 clear h
 replace H := Option.bind_eq_some_iff.mp H
 obtain ⟨⟨t131, t132⟩, A20, H⟩ := H
 replace H : (if 0 ≤ (t131.length : Int) then (if ((t131.length : Int) : Int).toNat ≤ 35184372088832 then (dlog_primes.l0 k (List.replicate ((t131.length : Int) : Int).toNat 0) t131 (t131.length : Int) 0) else (none)) else (none)) = some r := H
 have A2 := Q9a.mk A20
 clear A20
 by_cases c3 : 0 ≤ (t131.length : Int)
 ·rw [if_pos c3] at H
  have c3b0 := eq_true c3
  have c3b1 : decide (0 ≤ (t131.length : Int)) = true := decide_eq_true c3
  clear c3
  by_cases c4 : ((t131.length : Int) : Int).toNat ≤ 35184372088832
  ·rw [if_pos c4] at H
   have c4b0 := eq_true c4
   have c4b1 : decide (((t131.length : Int) : Int).toNat ≤ 35184372088832) = true := decide_eq_true c4
   clear c4
   obtain ⟨y135, hy135⟩ : ∃ y_ : List Int, y_ = (List.replicate ((t131.length : Int) : Int).toNat 0) := ⟨_, rfl⟩
   replace H : (dlog_primes.l0 k y135 t131 (t131.length : Int) 0) = some r := by first | (rw [hy135]; with_reducible exact H) | (have H2_ := (Option.bind_some _ _).symm.trans H; rw [hy135]; with_reducible exact H2_) | (have H2_ := (Option.bind_some _ _).symm.trans H; with_reducible exact H2_) | with_reducible exact H | (rw [hy135]; exact H) | exact H
   have Ny135 := Q9a.mk hy135
   clear hy135
   have H' := Q9a.mk H
   clear H
   go_enter Try.func43, Try.ntmps43
   go_wp2_with (first | ((with_reducible refine gate_callee (f := 62) rfl ?_); refine goesL_ (some 10) rfl rfl Try.func62 (by kernel_rfl) rfl #[.int .i64 a0] rfl (by (try simp only [List.map_toArray, List.map_cons, List.map_nil]); first | done | rfl | (simp only [List.length_drop, List.length_take]; rfl)) ?_; (with_reducible refine (number_Factor.calls k a0 t131 t132 _ A2.out).mono ?_); rintro e w5 ⟨v133, rfl, ho0, hb⟩; refine ⟨_, rfl, ?_⟩; have n0_ := Q9a.mk (Kd.R_lower ho0 (bZ (by repeat (first | (with_reducible first | exact HB.out | apply bA | apply bN | apply bD) | exact HB.out)))); have n1_ := Q9a.mk (bP (by repeat (first | (with_reducible first | exact HB.out | apply bA | apply bN | apply bD) | exact HB.out)) hb); clear HB; have HO134 := n0_; have HB := n1_; clear n0_ n1_; (try clear hb); (try clear hb2); (try clear hk); (try clear hi); (try clear ho0); obtain ⟨Ao6, co6, eo6⟩ := Kd.R_slice HO134.out; subst eo6) | ((with_reducible refine gate_dst (N := 15) rfl ?_); refine Kd.R_make (Kd.int .i64) _ 3 rfl (N := 15) rfl 22 _ _ rfl (t131.length : Int) rfl rfl Try.underlying22 (.int .i64 0) 8 info3 rfl (by decide) (by omega) 0 (ok := fun _ => True) (okp := fun _ => True) rfl (fun _ hk => hk) trivial (of_decide_eq_true (by first | (with_reducible assumption) | assumption)) (Nat.le_trans (Nat.mul_le_mul_right _ (of_decide_eq_true (by first | (with_reducible assumption) | assumption) : (t131.length : Int).toNat ≤ 35184372088832)) (by omega)) (Below.refl _ _) (Nat.le_refl _) ?_; intro v136 w7 ho8 hb hg_ hnew_; clear hg_ hnew_; (first | rw [← Ny135.out] at ho8 | (simp only [Int.reduceToNat] at ho8; rw [← Ny135.out] at ho8)); have n0_ := Q9a.mk (Kd.R_below (by (with_reducible repeat (first | apply Kd.R_alloc | apply Kd.R_drewN | apply Kd.R_drew)); exact HO134.out) hb); have n1_ := Q9a.mk (Kd.R_lower ho8 (bZ (by repeat (first | (with_reducible first | exact HB.out | apply bA | apply bN | apply bD) | exact HB.out)))); have n2_ := Q9a.mk (bP (by repeat (first | (with_reducible first | exact HB.out | apply bA | apply bN | apply bD) | exact HB.out)) hb); clear HO134; clear HB; have HO134 := n0_; have HO137 := n1_; have HB := n2_; clear n0_ n1_ n2_; clear hb ho8))
   go_loopg [18] k (fun kq v18 w' => ∃ (x5_1 : List Int) (x18_1 : Int), v18 = .int .i64 x18_1 ∧ Q9a (dlog_primes.l0 kq x5_1 t131 (t131.length : Int) x18_1 = some r) ∧ Q9a (kq ≤ k) ∧ Q9a (Kd.R (Kd.int .i64) 3 w' w.heap.size (fun _ => True) v136 x5_1) ∧ Q9a (Kd.R k87 87 w' w.heap.size (fun _ => True) (.slice Ao6 t131.length co6) t131) ∧ Q9a (Below w.heap.size w w'))
   case atStart => exact ⟨(y135), (0), (by first | rfl | (simp; done) | (simp [*]; done)), H', ⟨Nat.le_refl _⟩, ⟨by (with_reducible repeat (first | apply Kd.R_alloc | apply Kd.R_drewN | apply Kd.R_drew)); exact HO137.out⟩, ⟨by (with_reducible repeat (first | apply Kd.R_alloc | apply Kd.R_drewN | apply Kd.R_drew)); exact HO134.out⟩, ⟨by repeat (first | (with_reducible first | exact HB.out | apply bA | apply bN | apply bD) | exact HB.out)⟩⟩
   case round =>
    clear H'
    try clear p2
    try clear c3
    try clear c3b0
    try clear c3b1
    try clear c4
    try clear c4b0
    try clear c4b1
    try clear c6
    obtain ⟨x5_1, x18_1, rfl, HA, HK1, HO_5, HO_16, HB⟩ := hrel
    cases gk with
    | zero => exact absurd HA.out (by simp [dlog_primes.l0])
    | succ k1 =>
     have H := HA.out
     clear HA
     simp only [dlog_primes.l0] at H
     by_cases c9 : x18_1 < (t131.length : Int)
     ·rw [if_pos c9] at H
      have c9b0 : decide (x18_1 < (t131.length : Int)) = true := decide_eq_true c9
      clear c9
      by_cases c10 : 0 ≤ x18_1
      ·rw [if_pos c10] at H
       have c10b0 : decide (0 ≤ x18_1) = true := decide_eq_true c10
       clear c10
       by_cases c11 : x18_1 < (t131.length : Int)
       ·rw [if_pos c11] at H
        have c11b0 : decide (x18_1 < (t131.length : Int)) = true := decide_eq_true c11
        clear c11
        by_cases c12 : x18_1 < (x5_1.length : Int)
        ·rw [if_pos c12] at H
         have c12b0 : decide (x18_1 < (x5_1.length : Int)) = true := decide_eq_true c12
         clear c12
         obtain ⟨y140, hy140⟩ : ∃ y_ : List Int, y_ = (x5_1.set (x18_1 : Int).toNat ((rd_T87 t131 x18_1).f0)) := ⟨_, rfl⟩
         replace H : (dlog_primes.l0 k1 y140 t131 (t131.length : Int) (wrap64 (x18_1 + 1))) = some r := by first | (rw [hy140]; with_reducible exact H) | (have H2_ := (Option.bind_some _ _).symm.trans H; rw [hy140]; with_reducible exact H2_) | (have H2_ := (Option.bind_some _ _).symm.trans H; with_reducible exact H2_) | with_reducible exact H | (rw [hy140]; exact H) | exact H
         have Ny140 := Q9a.mk hy140
         clear hy140
         have H' := Q9a.mk H
         clear H
         have p138 : 0 ≤ (x18_1 : Int) := of_decide_eq_true (by first | (with_reducible assumption) | assumption)
         have q138 : x18_1 < (t131.length : Int) := of_decide_eq_true (by first | (with_reducible assumption) | assumption)
         obtain ⟨ad138, e138, hx138_0, hx138_1⟩ := at_T87 (Kd.R_reads' HO_16.out).2.2 x18_1 p138 q138
         cases e138
         replace p138 := eq_true p138
         replace q138 := eq_true q138
         go_wp2_with (first | ((with_reducible refine gate_dst (N := 7) rfl ?_); refine box_event ?hg (N := 7) ?hd (cs := #[.int .i64 0, .int .i64 0]) (t := 87) ?hr ?_; (case hd => rfl); (case hg => rfl); (case hr => first | (go_simp; done) | (go_simp; rfl)); intro gb139 hg w14 hbox hb; have n0_ := Q9a.mk (Kd.R_below (by (with_reducible repeat (first | apply Kd.R_alloc | apply Kd.R_drewN | apply Kd.R_drew)); exact HO_5.out) hb); have n1_ := Q9a.mk (Kd.R_below (Kd.R_elderB (by (with_reducible repeat (first | apply Kd.R_alloc | apply Kd.R_drewN | apply Kd.R_drew)); exact HO_16.out) gb139 (Nat.le_of_eq hg.symm)) hb); have n2_ := Q9a.mk (bP (by repeat (first | (with_reducible first | exact HB.out | apply bA | apply bN | apply bD) | exact HB.out)) hb); have n3_ := Q9a.mk (hbox); have n4_ := Q9a.mk ((by rw [hg]; exact (bZ (by repeat (first | (with_reducible first | exact HB.out | apply bA | apply bN | apply bD) | exact HB.out))) : w.heap.size ≤ gb139)); have n5_ := Q9a.mk ((by rw [hg]; exact (bZ (by repeat (first | (with_reducible first | exact HB.out | apply bA | apply bN | apply bD) | exact HB.out))) : w.heap.size ≤ gb139)); clear HO_5; clear HO_16; clear HB; have HO_5 := n0_; have HO_16 := n1_; have HB := n2_; have BK139 := n3_; have GW139 := n4_; have GE139 := n5_; clear n0_ n1_ n2_ n3_ n4_ n5_; clear hb hbox hg; have hcz15_0 : w14.cell? ⟨gb139, 0, none⟩ = some (.int .i64 0) := (kC BK139.out 0).trans rfl; have hcz15_1 : w14.cell? ⟨gb139, 1, none⟩ = some (.int .i64 0) := (kC BK139.out 1).trans rfl; have hfz15_0 := kF BK139.out 0; have hfz15_1 := kF BK139.out 1) | ((with_reducible refine gate_store (t := 87) (p := 7) rfl ?_); refine store_event (t := 87) (p := 7) (v := ?vo_w16) (w1 := ((w14.setCell ⟨gb139, 0, none⟩ (.int .i64 ((rd_T87 t131 x18_1).f0))).setCell ⟨gb139, 1, none⟩ (.int .i64 ((rd_T87 t131 x18_1).f1)))) ?hg ?ho ?hn ?hr ?_; (case ho => rfl); (case hg => rfl); (case hn => rfl); (case hr => first | (go_simp; done) | (go_simp; rfl)); intro w16 hw; have n0_ : Q9a (Kd.R (Kd.int .i64) 3 w16 w.heap.size (fun _ => True) v136 x5_1) := ⟨(by rw [hw]; exact (by (with_reducible repeat (first | apply Kd.R_alloc | apply Kd.R_drewN | apply Kd.R_drew)); exact Kd.R_mono (Kd.R_far (p := ⟨gb139, 1, none⟩) (Kd.R_far (p := ⟨gb139, 0, none⟩) (Kd.R_types HO_5.out BK139.out (by decide)) (fun _ hk => hk.2) (.int .i64 ((rd_T87 t131 x18_1).f0))) (fun _ hk => hk.2) (.int .i64 ((rd_T87 t131 x18_1).f1))) (fun _ hk => trivial)))⟩; have n1_ : Q9a (Kd.R k87 87 w16 w.heap.size (fun k_ => k_ ≠ gb139) (.slice (some ad138) t131.length co6) t131) := ⟨(by rw [hw]; exact (by (with_reducible repeat (first | apply Kd.R_alloc | apply Kd.R_drewN | apply Kd.R_drew)); exact Kd.R_mono (Kd.R_far (p := ⟨gb139, 1, none⟩) (Kd.R_far (p := ⟨gb139, 0, none⟩) (Kd.R_mono HO_16.out (fun k_ hk => (⟨hk, hk.2⟩ : _ ∧ k_ ≠ gb139))) (fun _ hk => hk.2) (.int .i64 ((rd_T87 t131 x18_1).f0))) (fun _ hk => hk.2) (.int .i64 ((rd_T87 t131 x18_1).f1))) (fun _ hk => hk.1.2)))⟩; have n2_ : Q9a (w16.heap[gb139]? = some (.cells #[.int .i64 ((rd_T87 t131 x18_1).f0), .int .i64 ((rd_T87 t131 x18_1).f1)] 87 (0, 0))) := ⟨(by rw [hw]; exact (by (with_reducible repeat (first | refine kN ?_ _ | refine kD ?_ | refine kA ?_ _)); refine blk_put (cs := #[.int .i64 ((rd_T87 t131 x18_1).f0), .int .i64 0]) ?_ 1 _ rfl; (with_reducible repeat (first | refine kN ?_ _ | refine kD ?_ | refine kA ?_ _)); refine blk_put (cs := #[.int .i64 0, .int .i64 0]) ?_ 0 _ rfl; (with_reducible repeat (first | refine kN ?_ _ | refine kD ?_ | refine kA ?_ _)); exact BK139.out))⟩; have n3_ : Q9a (Below w.heap.size w w16) := ⟨(by rw [hw]; exact (by repeat (first | (with_reducible first | exact HB.out | apply bA | apply bN | apply bD | refine bS ?_ GE139.out) | exact HB.out)))⟩; clear hw; clear HO_5; clear HO_16; clear BK139; clear HB; have HO_5 := n0_; have HO_16 := n1_; have BK139 := n2_; have HB := n3_; clear n0_ n1_ n2_ n3_; have hcz17_0 : w16.cell? ⟨gb139, 0, none⟩ = some (.int .i64 ((rd_T87 t131 x18_1).f0)) := (kC BK139.out 0).trans rfl; have hcz17_1 : w16.cell? ⟨gb139, 1, none⟩ = some (.int .i64 ((rd_T87 t131 x18_1).f1)) := (kC BK139.out 1).trans rfl; have hfz17_0 := kF BK139.out 0; have hfz17_1 := kF BK139.out 1; have p13 : 0 ≤ (x18_1 : Int) := of_decide_eq_true (by first | (with_reducible assumption) | assumption); have q13 : (x18_1 : Int) < ((x5_1.length : Int) : Int) := of_decide_eq_true (by first | (with_reducible assumption) | assumption); obtain ⟨go13, co13, eo13, gb13, gl13, cl13, HG13⟩ := Kd.R_form HO_5.out (by omega); (first | cases eo13 | (injection eo13 with ea_ en_ ec_; (first | subst ea_ | (injection ea_ with ea_; subst ea_)); subst ec_; clear en_)); have GB13 := Q9a.mk gb13; have GG13 := Q9a.mk HG13; clear gb13 gl13 HG13; obtain ⟨hx13_0, hf13_0⟩ := Kd.R_celln 0 HO_5.out (x18_1 : Int) p13 q13; replace p13 := eq_true p13; replace q13 := eq_true q13; obtain ⟨hy18_, hz18_⟩ := Kd.R_celln 0 HO_5.out (x18_1 : Int) (of_decide_eq_true (by first | (with_reducible assumption) | assumption)) (of_decide_eq_true (by first | (with_reducible assumption) | assumption)); have HP18 := Kd.R_putg HO_5.out (x18_1 : Int) ((rd_T87 t131 x18_1).f0)) | ((with_reducible refine gate_store (t := 3) (p := 27) rfl ?_); refine store_event (t := 3) (p := 27) (v := ?vo_w19) (w1 := (w16.setCell ⟨go13, (x18_1 : Int).toNat, none⟩ (.int .i64 ((rd_T87 t131 x18_1).f0)))) ?hg ?ho ?hn ?hr ?_; (case ho => rfl); (case hg => rfl); (case hn => rfl); (case hr => first | (go_simp; done) | (go_simp; rfl)); intro w19 hw; have hg : w16.grownBy w19 (some go13) := (by rw [hw]; exact HP18.2); have hp_ : Kd.R (Kd.int .i64) 3 w19 w.heap.size (fun _ => True) (.slice (some ⟨go13, 0, none⟩) x5_1.length co13) y140 := (by rw [hw, Ny140.out]; exact HP18.1); clear HP18; have n0_ := Q9a.mk (hp_); have n1_ := Q9a.mk (Kd.R_over' (v := (.slice (some ⟨go13, 0, none⟩) x5_1.length co13)) (by (with_reducible repeat (first | apply Kd.R_alloc | apply Kd.R_drewN | apply Kd.R_drew)); exact HO_16.out) (Kd.R_typed HO_5.out) (by decide) hg); have n2_ := Q9a.mk (blk_grown (g := gb139) (o := .cells #[.int .i64 ((rd_T87 t131 x18_1).f0), .int .i64 ((rd_T87 t131 x18_1).f1)] 87 (0, 0)) (by (with_reducible repeat (first | refine kN ?_ _ | refine kD ?_ | refine kA ?_ _)); exact BK139.out) hg (Kd.R_ne HO_5.out BK139.out (by decide))); have n3_ := Q9a.mk ((by rw [hw]; exact bS (HB.out) GB13.out : Below w.heap.size w w19)); clear HO_5; clear HO_16; clear BK139; clear HB; have HO_5 := n0_; have HO_16 := n1_; have BK139 := n2_; have HB := n3_; clear n0_ n1_ n2_ n3_; clear hg hw hp_))
         go_roundg k1
         case measure => have := HK1.out; omega
         case rel => exact ⟨(y140), (wrap64 (x18_1 + 1)), (by first | rfl | (simp; done) | (simp [*]; done)), H', ⟨by have := HK1.out; omega⟩, ⟨by (with_reducible repeat (first | apply Kd.R_alloc | apply Kd.R_drewN | apply Kd.R_drew)); exact HO_5.out⟩, ⟨by (with_reducible repeat (first | apply Kd.R_alloc | apply Kd.R_drewN | apply Kd.R_drew)); exact Kd.R_mono HO_16.out (fun _ hk => trivial)⟩, ⟨by repeat (first | (with_reducible first | exact HB.out | apply bA | apply bN | apply bD | refine bS ?_ GE139.out) | exact HB.out)⟩⟩
        ·rw [if_neg c12] at H
         exact absurd H (by simp)
       ·rw [if_neg c11] at H
        exact absurd H (by simp)
      ·rw [if_neg c10] at H
       exact absurd H (by simp)
     ·rw [if_neg c9] at H
      have c9b0 : decide (x18_1 < (t131.length : Int)) = false := decide_eq_false c9
      clear c9
      obtain rfl := Option.some.inj H
      go_wp2
      go_ret
      exact ⟨_, by first | rfl | (simp [eN, eS] <;> rfl) | (simp [*, eN, eS] <;> rfl), by (with_reducible repeat (first | apply Kd.R_alloc | apply Kd.R_drewN | apply Kd.R_drew)); exact HO_5.out, by repeat (first | (with_reducible first | exact HB.out | apply bA | apply bN | apply bD) | exact HB.out)⟩
  ·rw [if_neg c4] at H
   exact absurd H (by simp)
 ·rw [if_neg c3] at H
  exact absurd H (by simp)
end
end Go.Proofs.Ytbohbfggmnjpdaa.P
end
-- Q1
section
namespace Go.Proofs.Ytbohbfggmnjpdaa.Pl
open Go.RowKit Go.Proofs.Ytbohbfggmnjpdaa.P Go.Proofs.Ytbohbfggmnjpdaa.Hand Go.Proofs.YtbohbfggmnjpdaaW.PrintWords
def IsPrl (n : Nat) (l : List Nat) : Prop := l.Pairwise (· < ·) ∧ ∀ p, p ∈ l ↔ Cw.Prm p ∧ p ∣ n
def leastOk (n : Nat) : Bool := decide (2 ≤ (leastV (n : Int)).toNat) && decide (leastV (n : Int) = ((leastV (n : Int)).toNat : Int)) && decide (n % (leastV (n : Int)).toNat = 0) && (List.range (leastV (n : Int)).toNat).all (fun d => decide (d < 2) || decide (n % d ≠ 0))
theorem least_all : (List.range 256).all (fun n => decide (n < 2) || leastOk n) = true := by kernel_rfl
theorem least_spec (n : Nat) (h1 : 2 ≤ n) (h2 : n ≤ 255) : ∃ p : Nat, leastV (n : Int) = (p : Int) ∧ Cw.Prm p ∧ p ∣ n ∧ ∀ r, Cw.Prm r → r ∣ n → p ≤ r := by
 have h := List.all_eq_true.1 least_all n (List.mem_range.2 (by omega))
 rw [Bool.or_eq_true, decide_eq_true_iff] at h
 rcases h with h | h
 ·omega
 unfold leastOk at h
 rw [Bool.and_eq_true, Bool.and_eq_true, Bool.and_eq_true, decide_eq_true_iff, decide_eq_true_iff, decide_eq_true_iff] at h
 obtain ⟨⟨⟨a1, a2⟩, a3⟩, a4⟩ := h
 have hmin : ∀ d, 2 ≤ d → d < (leastV (n : Int)).toNat → ¬ d ∣ n := by
  intro d hd1 hd2 hd3
  have := List.all_eq_true.1 a4 d (List.mem_range.2 hd2)
  rw [Bool.or_eq_true, decide_eq_true_iff, decide_eq_true_iff] at this
  rcases this with h | h
  ·omega
  ·exact h (Nat.mod_eq_zero_of_dvd hd3)
 have hdv : (leastV (n : Int)).toNat ∣ n := Nat.dvd_of_mod_eq_zero a3
 refine ⟨(leastV (n : Int)).toNat, a2, ⟨a1, fun d hd => ?_⟩, hdv, fun r hr hrn => ?_⟩
 ·by_cases hd1 : d = 1
  ·exact Or.inl hd1
  ·right
   have hd0 : d ≠ 0 := by
    rintro rfl
    have := Nat.eq_zero_of_zero_dvd hd
    omega
   have hle := Nat.le_of_dvd (by omega) hd
   by_cases hlt : d < (leastV (n : Int)).toNat
   ·exact absurd (Nat.dvd_trans hd hdv) (hmin d (by omega) hlt)
   ·omega
 ·by_cases hlt : r < (leastV (n : Int)).toNat
  ·exact absurd hrn (hmin r hr.1 hlt)
  ·omega
theorem factor_inner (p : Nat) (hp : Cw.Prm p) : ∀ (b x : Nat), x ≤ b → 1 ≤ x → x ≤ 255 → ∀ c : Int, ∃ x' c', 1 ≤ x' ∧ x' ≤ x ∧ (p ∣ x → x' < x) ∧ ¬ p ∣ x' ∧ (∀ r, Cw.Prm r → (r ∣ x ↔ r ∣ x' ∨ (r = p ∧ p ∣ x))) ∧
  (∀ acc : List S87, acc.length < 8796093022208 → ∀ R, Ev (fun k => number_Factor.l0 k (x' : Int) (acc ++ [(⟨(p : Int), c'⟩ : S87)])) R → Ev (fun k => number_Factor.l1 k (x : Int) acc (p : Int) (p : Int) c) R) := by
 intro b
 have hp2 := hp.1
 have c2 : ¬ (p : Int) = 0 := by omega
 induction b with
 | zero => intro x h1 h2; omega
 | succ b ih =>
  intro x hx h1 h255 c
  by_cases hdv : p ∣ x
  ·obtain ⟨y, rfl⟩ := hdv
   have hy0 : y ≠ 0 := by rintro rfl; omega
   have hyx : y < p * y := by
    have := Nat.mul_le_mul_right y hp2
    omega
   have hdiv : Int.tdiv ((p * y : Nat) : Int) (p : Int) = (y : Int) := by rw [Cw.tdiv_nat, Nat.mul_div_cancel_left _ (by omega)]
   obtain ⟨x', c', a1, a2, a3, a4, a5, a6⟩ := ih y (by omega) (by omega) (by omega) (wrap64 (c + 1))
   refine ⟨x', c', a1, by omega, fun _ => by omega, a4, fun r hr => ?_, fun acc hacc R hR => Ev.step (fun k => ?_) (a6 acc hacc R hR)⟩
   ·constructor
    ·intro h
     rcases hr.dvd_mul h with h | h
     ·right
      rcases hp.2 r h with h | h
      ·have := hr.1; omega
      ·exact ⟨h, Nat.dvd_mul_right _ _⟩
     ·rcases (a5 r hr).1 h with h | h
      ·exact Or.inl h
      ·exact Or.inr ⟨h.1, Nat.dvd_mul_right _ _⟩
    ·rintro (h | h)
     ·exact Nat.dvd_trans ((a5 r hr).2 (Or.inl h)) (Nat.dvd_mul_left _ _)
     ·rw [h.1]; exact Nat.dvd_mul_right _ _
   ·simp only [number_Factor.l1]
    rw [if_neg c2, Cw.tmod_nat, Nat.mul_mod_right, if_pos (by rfl), hdiv, w64n y (by omega)]
  ·refine ⟨x, c, h1, Nat.le_refl _, fun h => absurd h hdv, hdv, fun r hr => ⟨fun h => Or.inl h, fun h => h.elim id (fun h => absurd h.2 hdv)⟩, fun acc hacc R hR => Ev.step (fun k => ?_) hR⟩
   have : x % p ≠ 0 := fun h0 => hdv (Nat.dvd_of_mod_eq_zero h0)
   simp only [number_Factor.l1]
   rw [if_neg c2, Cw.tmod_nat, if_neg (by omega), if_pos hacc]
theorem factor_outer : ∀ (b m : Nat), m ≤ b → 1 ≤ m → m ≤ 255 → ∃ (L : List S87) (l : List Nat), L.map S87.f0 = ints l ∧ IsPrl m l ∧ L.length ≤ m ∧ ∀ acc : List S87, acc.length ≤ 1000 - m → Ev (fun k => number_Factor.l0 k (m : Int) acc) (acc ++ L, 0) := by
 intro b
 induction b with
 | zero => intro m h1 h2; omega
 | succ b ih =>
  intro m hm h1 h255
  by_cases hm1 : m = 1
  ·subst hm1
   refine ⟨[], [], rfl, ⟨List.Pairwise.nil, fun p => ⟨fun h => by simp at h, fun h => ?_⟩⟩, by simp, fun acc _ => ?_⟩
   ·have := h.1.1
    have := Nat.le_of_dvd (by omega) h.2
    omega
   ·refine Ev.step (f := fun _ => some _) (fun k => ?_) (Ev.now _)
    simp only [number_Factor.l0]
    rw [if_neg (by omega), List.append_nil]
  ·obtain ⟨p, hpv, hpr, hpd, hmin⟩ := least_spec m (by omega) h255
   obtain ⟨x', c', a1, a2, a3, a4, a5, a6⟩ := factor_inner p hpr m m (Nat.le_refl _) h1 h255 0
   have hx'lt := a3 hpd
   obtain ⟨L, l, e1, e2, e3, e4⟩ := ih x' (by omega) a1 (by omega)
   refine ⟨⟨(p : Int), c'⟩ :: L, p :: l, by rw [List.map_cons, e1, ints_cons], ⟨?_, fun r => ?_⟩, by rw [List.length_cons]; omega, fun acc hacc => ?_⟩
   ·rw [List.pairwise_cons]
    refine ⟨fun r hr => ?_, e2.1⟩
    obtain ⟨hr1, hr2⟩ := (e2.2 r).1 hr
    have h3 := hmin r hr1 ((a5 r hr1).2 (Or.inl hr2))
    have h4 : r ≠ p := fun e => a4 (e ▸ hr2)
    omega
   ·rw [List.mem_cons, e2.2]
    constructor
    ·rintro (h | h)
     ·rw [h]; exact ⟨hpr, hpd⟩
     ·exact ⟨h.1, (a5 r h.1).2 (Or.inl h.2)⟩
    ·intro h
     rcases (a5 r h.1).1 h.2 with h' | h'
     ·exact Or.inr ⟨h.1, h'⟩
     ·exact Or.inl h'.1
   ·have h9 := a6 acc (by omega) _ (e4 (acc ++ [(⟨(p : Int), c'⟩ : S87)]) (by rw [List.length_append]; simp; omega))
    rw [List.append_assoc, List.singleton_append] at h9
    have hl : number_least.f (m : Int) = some (p : Int) := by
     unfold number_least.f
     rw [if_pos (by omega), hpv]
    refine Ev.step (fun k => ?_) h9
    simp only [number_Factor.l0]
    rw [if_pos (by omega), hl]
    rfl
theorem factor_ev (n : Nat) (h1 : 1 ≤ n) (h2 : n ≤ 255) : ∃ (L : List S87) (l : List Nat), L.map S87.f0 = ints l ∧ IsPrl n l ∧ L.length ≤ n ∧ Ev (fun k => number_Factor.f k (n : Int)) (L, 0) := by
 obtain ⟨L, l, e1, e2, e3, e4⟩ := factor_outer n n (Nat.le_refl _) h1 h2
 refine ⟨L, l, e1, e2, e3, Ev.congr (fun k => ?_) (e4 [] (by simp))⟩
 unfold number_Factor.f
 have : number_in.f (n : Int) 1 = some true := by
  unfold number_in.f
  rw [if_pos (by omega), decide_eq_true (by omega)]
 rw [this]
 rfl
theorem primesP_loop (L : List S87) (hL : L.length ≤ 255) : ∀ e i, i + e = L.length → Ev (fun k => dlog_primes.l0 k ((L.take i).map S87.f0 ++ List.replicate e 0) L (L.length : Int) (i : Int)) (L.map S87.f0) := by
 intro e
 induction e with
 | zero =>
  intro i hi
  refine Ev.step (f := fun _ => some _) (fun k => ?_) (Ev.now _)
  simp only [dlog_primes.l0]
  rw [if_neg (by omega), List.take_of_length_le (by omega), List.replicate_zero, List.append_nil]
 | succ e ih =>
  intro i hi
  have hil : i < L.length := by omega
  have c1 : (i : Int) < (L.length : Int) := by omega
  have c2 : (0 : Int) ≤ (i : Int) := by omega
  have hi1 : wrap64 ((i : Int) + 1) = ((i + 1 : Nat) : Int) := by rw [w64 (by omega) (by omega)]; rfl
  have hlen : ((L.take i).map S87.f0).length = i := by rw [List.length_map, List.length_take]; omega
  have c3 : (i : Int) < (((L.take i).map S87.f0 ++ List.replicate (e + 1) 0).length : Int) := by
   rw [List.length_append, hlen, List.length_replicate]; omega
  have hr : (rd_T87 L (i : Int)).f0 = (L[i]).f0 := by
   unfold rd_T87
   rw [Int.toNat_natCast, List.getD_eq_getElem?_getD, List.getElem?_eq_getElem hil]; rfl
  have hset : ((L.take i).map S87.f0 ++ List.replicate (e + 1) 0).set i (L[i]).f0 = (L.take (i + 1)).map S87.f0 ++ List.replicate e 0 := by
   rw [List.set_append_right _ _ (by omega), hlen, Nat.sub_self, List.replicate_succ, List.set_cons_zero, List.take_add_one, List.getElem?_eq_getElem hil, List.map_append]
   simp
  refine Ev.step (fun k => ?_) (ih (i + 1) (by omega))
  simp only [dlog_primes.l0]
  rw [if_pos c1, if_pos c2, if_pos c1, if_pos c3, hr, Int.toNat_natCast, hset, hi1]
theorem primesP_ev (n : Nat) (h1 : 1 ≤ n) (h2 : n ≤ 255) : ∃ l, IsPrl n l ∧ Ev (fun k => dlog_primes.f k (n : Int)) (ints l) := by
 obtain ⟨L, l, e1, e2, e3, e4⟩ := factor_ev n h1 h2
 refine ⟨l, e2, Ev.bind e4 ?_⟩
 have h := primesP_loop L (by omega) L.length 0 (by omega)
 rw [e1] at h
 refine Ev.congr (fun k => ?_) h
 rw [if_pos (Int.natCast_nonneg _), if_pos (by rw [Int.toNat_natCast]; show L.length ≤ _; omega), Int.toNat_natCast]
 rfl
end Go.Proofs.Ytbohbfggmnjpdaa.Pl
end
-- GmOrder
section
namespace Go.Proofs.Ytbohbfggmnjpdaa.Hand
open Go.RowKit Go.Proofs.YtbohbfggmnjpdaaW.PrintWords
def field_GF_Order.f (a0 : GFv) : Option Int := some (a0.q : Int)
theorem field_GF_Order.calls (b_a0 : Nat) (a0 : GFv) (r : Int) (w : World) (hg0 : GFok w b_a0 a0) (h : field_GF_Order.f a0 = some r) :
  Calls Try.prog 41 #[.pointer (some ⟨b_a0, 0, none⟩)] w fun e w' => e = .returned (.int .i64 r) ∧ Below w.heap.size w w' := by
 obtain rfl := Option.some.inj h
 exact (GS.field_GF_Order.calls b_a0 _ _ _ _ _ _ _ _ _ _ w w hg0.isS (Below.refl _ _) rfl).mono fun e w' h => ⟨h.1, h.2.2.1⟩
end Go.Proofs.Ytbohbfggmnjpdaa.Hand
end
-- Pb4
section
namespace Go.Proofs.Ytbohbfggmnjpdaa.P
noncomputable section
open Go.RowKit Go.Proofs.Ytbohbfggmnjpdaa.Hand Go.Proofs.YtbohbfggmnjpdaaW.PrintWords Go.Proofs.YtbohbfggmnjpdaaW.PrintLast Go.Proofs.YtbohbfggmnjpdaaW.PrintMore
set_option linter.unusedVariables false
set_option linter.unusedSimpArgs false
mutual
def dlog_Order.j0 : Nat → GFv → Int → Bool → Option (Int × List Int × Int)
 | 0, _, _, _ => none
 | k + 1, x0, x1, x18 => if x18 = true then (some (0, ([] : List Int), 7)) else ((field_GF_Order.f x0).bind fun t157 => ((dlog_primes.f k (wrap64 (t157 - 1))).bind fun t158 => (dlog_Order.l0 k x0 x1 (wrap64 (t157 - 1)) t158 (t158.length : Int) 0)))
def dlog_Order.l0 : Nat → GFv → Int → Int → List Int → Int → Int → Option (Int × List Int × Int)
 | 0, _, _, _, _, _, _ => none
 | k + 1, x0, x1, x6, x24, x25, x26 => if x26 < x25 then (if 0 ≤ x26 then (if x26 < (x24.length : Int) then (dlog_Order.l1 k x0 x1 x6 (rd x24 x26) x24 x25 x26) else (none)) else (none)) else ((dlog_primes.f k x6).bind fun t161 => (some (x6, t161, 0)))
def dlog_Order.l1 : Nat → GFv → Int → Int → Int → List Int → Int → Int → Option (Int × List Int × Int)
 | 0, _, _, _, _, _, _, _ => none
 | k + 1, x0, x1, x6, x8, x24, x25, x26 => if x8 = 0 then (none) else (if (Int.tmod x6 x8) = 0 then ((field_GF_Pow.f x0 x1 (wrap64 (Int.tdiv x6 x8))).bind fun bt165 => (if bt165.1 = 1 then (dlog_Order.l1 k x0 x1 (wrap64 (Int.tdiv x6 x8)) x8 x24 x25 x26) else (dlog_Order.l0 k x0 x1 x6 x24 x25 (wrap64 (x26 + 1))))) else (dlog_Order.l0 k x0 x1 x6 x24 x25 (wrap64 (x26 + 1))))
end
def dlog_Order.f (k : Nat) (a0 : GFv) (a1 : Int) : Option (Int × List Int × Int) := (field_GF_Is.f a0 a1).bind fun t156 => (if t156 = true then (dlog_Order.j0 k a0 a1 (a1 == 0)) else (dlog_Order.j0 k a0 a1 true))
set_option maxHeartbeats 8000000 in
set_option maxRecDepth 100000 in
theorem dlog_Order.calls (k : Nat) (b_a0 : Nat) (a0 : GFv) (a1 : Int) (r1 : Int) (r2 : List Int) (r3 : Int) (w : World) (hg0 : GFok w b_a0 a0) (h : dlog_Order.f k a0 a1 = some (r1, r2, r3)) :
  Calls Try.prog 21 #[.pointer (some ⟨b_a0, 0, none⟩), .int .i64 a1] w fun e w' => ∃ v1_ : Value, e = .returned (.tuple #[.agg #[.int .i64 r1, v1_], .int .i64 r3]) ∧ Kd.R (Kd.int .i64) 3 w' w.heap.size (fun _ => True) v1_ r2 ∧ Below w.heap.size w w' := by
 have hu26 := Try.underlying26
 have HG_a0 := Q9a.mk hg0
 clear hg0
 have HB := Q9a.mk (Below.refl w.heap.size w)
 have H : ((field_GF_Is.f a0 a1).bind fun t156 => (if t156 = true then (dlog_Order.j0 k a0 a1 (a1 == 0)) else (dlog_Order.j0 k a0 a1 true))) = some (r1, r2, r3) := h
 clear h
 have HC3 := Q9a.mk H
 clear H
 go_enter Try.func21, Try.ntmps21
 go_upto_region 1 with (first | ((with_reducible refine gate_dst (N := 4) rfl ?_); refine box_event ?hg (N := 4) ?hd (cs := #[.int .i64 0, .slice none 0 0]) (t := 26) ?hr ?_; (case hd => rfl); (case hg => rfl); (case hr => first | (go_simp; done) | (go_simp; rfl)); intro gb155 hg w4 hbox hb; have n0_ := Q9a.mk (bP (by repeat (first | (with_reducible first | exact HB.out | apply bA | apply bN | apply bD) | exact HB.out)) hb); have n1_ := Q9a.mk (hbox); have n2_ := Q9a.mk ((by rw [hg]; exact (bZ (by repeat (first | (with_reducible first | exact HB.out | apply bA | apply bN | apply bD) | exact HB.out))) : w.heap.size ≤ gb155)); have n3_ := Q9a.mk ((by rw [hg]; exact (bZ (by repeat (first | (with_reducible first | exact HB.out | apply bA | apply bN | apply bD) | exact HB.out))) : w.heap.size ≤ gb155)); clear HB; have HB := n0_; have BK155 := n1_; have GW155 := n2_; have GE155 := n3_; clear n0_ n1_ n2_ n3_; clear hb hbox hg))
 (try simp only [Act.put, sz1, sz2, sz3])
 go_cut [18] (fun v18 wc => ∃ (kq : Nat) (x18_2 : Bool), v18 = .bool x18_2 ∧ Q9a (dlog_Order.j0 kq a0 a1 x18_2 = some (r1, r2, r3)) ∧ Q9a (kq ≤ k) ∧ Q9a (wc.heap[gb155]? = some (.cells #[.int .i64 0, (.slice none 0 0)] 26 (0, 0))) ∧ Q9a (Below w.heap.size w wc))
 case first =>
  have H := HC3.out
  clear HC3
  replace H := Option.bind_eq_some_iff.mp H
  obtain ⟨t156, A50, H⟩ := H
  replace H : (if t156 = true then (dlog_Order.j0 k a0 a1 (a1 == 0)) else (dlog_Order.j0 k a0 a1 true)) = some (r1, r2, r3) := H
  have A5 := Q9a.mk A50
  clear A50
  by_cases c6 : t156 = true
  ·subst c6
   have H1 : (dlog_Order.j0 k a0 a1 (a1 == 0)) = some (r1, r2, r3) := by rw [if_pos rfl] at H; exact H
   clear H
   have H := H1
   clear H1
   have H' := Q9a.mk H
   clear H
   go_wp2_with (first | ((with_reducible refine gate_callee (f := 40) rfl ?_); refine goesL_ (some 13) rfl rfl Try.func40 (by kernel_rfl) rfl #[.pointer (some ⟨b_a0, 0, none⟩), .int .i64 a1] rfl (by (try simp only [List.map_toArray, List.map_cons, List.map_nil]); first | done | rfl | (simp only [List.length_drop, List.length_take]; rfl)) ?_; (with_reducible refine (field_GF_Is.calls b_a0 a0 a1 true _ ?side1 A5.out).mono ?_); (case side1 => exact GFok.belowT HG_a0.out (by repeat (first | (with_reducible first | exact HB.out | apply bA | apply bN | apply bD | refine bS ?_ GE155.out) | exact HB.out))); rintro e w7 ⟨rfl, hb⟩; refine ⟨_, rfl, ?_⟩; have n0_ := Q9a.mk (kB (g := gb155) (o := .cells #[.int .i64 0, .slice none 0 0] 26 (0, 0)) (by (with_reducible repeat (first | refine kN ?_ _ | refine kD ?_ | refine kA ?_ _)); exact BK155.out) hb); have n1_ := Q9a.mk (bP (by repeat (first | (with_reducible first | exact HB.out | apply bA | apply bN | apply bD | refine bS ?_ GE155.out) | exact HB.out)) hb); clear BK155; clear HB; have BK155 := n0_; have HB := n1_; clear n0_ n1_; (try clear hb); (try clear hb2); (try clear hk); (try clear hi)))
   go_meet
   case rel => exact ⟨_, ((a1 == 0)), (by first | rfl | (simp; done) | (simp [*]; done)), H', ⟨by first | omega | exact Nat.le_refl _⟩, ⟨by (with_reducible repeat (first | refine kN ?_ _ | refine kD ?_ | refine kA ?_ _)); exact BK155.out⟩, ⟨by repeat (first | (with_reducible first | exact HB.out | apply bA | apply bN | apply bD | refine bS ?_ GE155.out) | exact HB.out)⟩⟩
  ·replace c6 := Bool.eq_false_iff.mpr c6
   subst c6
   have H1 : (dlog_Order.j0 k a0 a1 true) = some (r1, r2, r3) := by rw [if_neg (show ¬ (false = true) by decide)] at H; exact H
   clear H
   have H := H1
   clear H1
   have H' := Q9a.mk H
   clear H
   go_wp2_with (first | ((with_reducible refine gate_callee (f := 40) rfl ?_); refine goesL_ (some 13) rfl rfl Try.func40 (by kernel_rfl) rfl #[.pointer (some ⟨b_a0, 0, none⟩), .int .i64 a1] rfl (by (try simp only [List.map_toArray, List.map_cons, List.map_nil]); first | done | rfl | (simp only [List.length_drop, List.length_take]; rfl)) ?_; (with_reducible refine (field_GF_Is.calls b_a0 a0 a1 false _ ?side1 A5.out).mono ?_); (case side1 => exact GFok.belowT HG_a0.out (by repeat (first | (with_reducible first | exact HB.out | apply bA | apply bN | apply bD | refine bS ?_ GE155.out) | exact HB.out))); rintro e w8 ⟨rfl, hb⟩; refine ⟨_, rfl, ?_⟩; have n0_ := Q9a.mk (kB (g := gb155) (o := .cells #[.int .i64 0, .slice none 0 0] 26 (0, 0)) (by (with_reducible repeat (first | refine kN ?_ _ | refine kD ?_ | refine kA ?_ _)); exact BK155.out) hb); have n1_ := Q9a.mk (bP (by repeat (first | (with_reducible first | exact HB.out | apply bA | apply bN | apply bD | refine bS ?_ GE155.out) | exact HB.out)) hb); clear BK155; clear HB; have BK155 := n0_; have HB := n1_; clear n0_ n1_; (try clear hb); (try clear hb2); (try clear hk); (try clear hi)))
   go_meet
   case rel => exact ⟨_, (true), (by first | rfl | (simp; done) | (simp [*]; done)), H', ⟨by first | omega | exact Nat.le_refl _⟩, ⟨by (with_reducible repeat (first | refine kN ?_ _ | refine kD ?_ | refine kA ?_ _)); exact BK155.out⟩, ⟨by repeat (first | (with_reducible first | exact HB.out | apply bA | apply bN | apply bD | refine bS ?_ GE155.out) | exact HB.out)⟩⟩
 case rest =>
  clear HC3
  try clear c2
  try clear p2
  try clear c4
  try clear c6
  obtain ⟨kq, x18_2, rfl, HA, HJ2, BK155, HB⟩ := hcut
  cases kq with
  | zero => exact absurd HA.out (by simp [dlog_Order.j0])
  | succ kj2 =>
   have H := HA.out
   clear HA
   simp only [dlog_Order.j0] at H
   by_cases c9 : x18_2 = true
   ·subst c9
    have H1 : (some (0, ([] : List Int), 7)) = some (r1, r2, r3) := by rw [if_pos rfl] at H; exact H
    clear H
    have H := H1
    clear H1
    simp only [Option.some.injEq, Prod.mk.injEq] at H
    obtain ⟨rfl, rfl, rfl⟩ := H
    have hcz10_0 : wc.cell? ⟨gb155, 0, none⟩ = some (.int .i64 0) := (kC BK155.out 0).trans rfl
    have hcz10_1 : wc.cell? ⟨gb155, 1, none⟩ = some (.slice none 0 0) := (kC BK155.out 1).trans rfl
    have hfz10_0 := kF BK155.out 0
    have hfz10_1 := kF BK155.out 1
    go_wp2
    refine bodyPost_ret (results_ct rfl _ _ gb155 26 #[.int .i64 0, .slice none 0 0] (0, 0) _ rfl (by (with_reducible repeat (first | refine kN ?_ _ | refine kD ?_ | refine kA ?_ _)); refine blk_put (cs := #[.int .i64 0, .slice none 0 0]) ?_ 1 _ rfl; (with_reducible repeat (first | refine kN ?_ _ | refine kD ?_ | refine kA ?_ _)); refine blk_put (cs := #[.int .i64 0, .slice none 0 0]) ?_ 0 _ rfl; (with_reducible repeat (first | refine kN ?_ _ | refine kD ?_ | refine kA ?_ _)); exact BK155.out) Try.underlying26 rfl (by kernel_rfl)) rfl ?_
    exact ⟨_, by first | rfl | (simp [eN, eS] <;> rfl) | (simp [*, eN, eS] <;> rfl), by first | exact Kd.R_nil _ _ _ _ _ | exact Kd.N_nil _ _ _ _ _ | exact Kd.V_nil _ _ _ _ _ | exact Kd.Q_nil _ _ _ _ _ | exact Kd.S_nil _ _ _ _ _, by repeat (first | (with_reducible first | exact HB.out | apply bA | apply bN | apply bD | refine bS ?_ GE155.out) | exact HB.out)⟩
   ·replace c9 := Bool.eq_false_iff.mpr c9
    subst c9
    have H1 : ((field_GF_Order.f a0).bind fun t157 => ((dlog_primes.f kj2 (wrap64 (t157 - 1))).bind fun t158 => (dlog_Order.l0 kj2 a0 a1 (wrap64 (t157 - 1)) t158 (t158.length : Int) 0))) = some (r1, r2, r3) := by rw [if_neg (show ¬ (false = true) by decide)] at H; exact H
    clear H
    have H := H1
    clear H1
    replace H := Option.bind_eq_some_iff.mp H
    obtain ⟨t157, A110, H⟩ := H
    replace H : ((dlog_primes.f kj2 (wrap64 (t157 - 1))).bind fun t158 => (dlog_Order.l0 kj2 a0 a1 (wrap64 (t157 - 1)) t158 (t158.length : Int) 0)) = some (r1, r2, r3) := H
    have A11 := Q9a.mk A110
    clear A110
    replace H := Option.bind_eq_some_iff.mp H
    obtain ⟨t158, A120, H⟩ := H
    replace H : (dlog_Order.l0 kj2 a0 a1 (wrap64 (t157 - 1)) t158 (t158.length : Int) 0) = some (r1, r2, r3) := H
    have A12 := Q9a.mk A120
    clear A120
    have H' := Q9a.mk H
    clear H
    go_wp2_with (first | ((with_reducible refine gate_callee (f := 41) rfl ?_); refine goesL_ (some 21) rfl rfl Try.func41 (by kernel_rfl) rfl #[.pointer (some ⟨b_a0, 0, none⟩)] rfl (by (try simp only [List.map_toArray, List.map_cons, List.map_nil]); first | done | rfl | (simp only [List.length_drop, List.length_take]; rfl)) ?_; (with_reducible refine (field_GF_Order.calls b_a0 a0 t157 _ ?side1 A11.out).mono ?_); (case side1 => exact GFok.belowT HG_a0.out (by repeat (first | (with_reducible first | exact HB.out | apply bA | apply bN | apply bD | refine bS ?_ GE155.out) | exact HB.out))); rintro e w13 ⟨rfl, hb⟩; refine ⟨_, rfl, ?_⟩; have n0_ := Q9a.mk (kB (g := gb155) (o := .cells #[.int .i64 0, .slice none 0 0] 26 (0, 0)) (by (with_reducible repeat (first | refine kN ?_ _ | refine kD ?_ | refine kA ?_ _)); exact BK155.out) hb); have n1_ := Q9a.mk (bP (by repeat (first | (with_reducible first | exact HB.out | apply bA | apply bN | apply bD | refine bS ?_ GE155.out) | exact HB.out)) hb); clear BK155; clear HB; have BK155 := n0_; have HB := n1_; clear n0_ n1_; (try clear hb); (try clear hb2); (try clear hk); (try clear hi)) | ((with_reducible refine gate_callee (f := 43) rfl ?_); refine goesL_ (some 24) rfl rfl Try.func43 (by kernel_rfl) rfl #[.int .i64 (wrap64 (t157 - 1))] rfl (by (try simp only [List.map_toArray, List.map_cons, List.map_nil]); first | done | rfl | (simp only [List.length_drop, List.length_take]; rfl)) ?_; (with_reducible refine (dlog_primes.calls kj2 (wrap64 (t157 - 1)) t158 _ A12.out).mono ?_); rintro e w14 ⟨v159, rfl, ho0, hb⟩; refine ⟨_, rfl, ?_⟩; have n0_ := Q9a.mk (Kd.R_lower ho0 (bZ (by repeat (first | (with_reducible first | exact HB.out | apply bA | apply bN | apply bD | refine bS ?_ GE155.out) | exact HB.out)))); have n1_ := Q9a.mk (kB (g := gb155) (o := .cells #[.int .i64 0, .slice none 0 0] 26 (0, 0)) (by (with_reducible repeat (first | refine kN ?_ _ | refine kD ?_ | refine kA ?_ _)); exact BK155.out) hb); have n2_ := Q9a.mk (bP (by repeat (first | (with_reducible first | exact HB.out | apply bA | apply bN | apply bD | refine bS ?_ GE155.out) | exact HB.out)) hb); clear BK155; clear HB; have HO160 := n0_; have BK155 := n1_; have HB := n2_; clear n0_ n1_ n2_; (try clear hb); (try clear hb2); (try clear hk); (try clear hi); (try clear ho0); obtain ⟨Ao15, co15, eo15⟩ := Kd.R_slice HO160.out; subst eo15))
    go_loopg [6, 26] kj2 (fun kq v6 v26 w' => ∃ (x6_2 : Int) (x26_2 : Int), v6 = .int .i64 x6_2 ∧ v26 = .int .i64 x26_2 ∧ Q9a (dlog_Order.l0 kq a0 a1 x6_2 t158 (t158.length : Int) x26_2 = some (r1, r2, r3)) ∧ Q9a (kq ≤ kj2) ∧ Q9a (Kd.R (Kd.int .i64) 3 w' w.heap.size (fun _ => True) (.slice Ao15 t158.length co15) t158) ∧ Q9a (w'.heap[gb155]? = some (.cells #[.int .i64 0, (.slice none 0 0)] 26 (0, 0))) ∧ Q9a (Below w.heap.size w w'))
    case atStart => exact ⟨(wrap64 (t157 - 1)), (0), (by first | rfl | (simp; done) | (simp [*]; done)), (by first | rfl | (simp; done) | (simp [*]; done)), H', ⟨Nat.le_refl _⟩, ⟨by (with_reducible repeat (first | apply Kd.R_alloc | apply Kd.R_drewN | apply Kd.R_drew)); exact HO160.out⟩, ⟨by (with_reducible repeat (first | refine kN ?_ _ | refine kD ?_ | refine kA ?_ _)); exact BK155.out⟩, ⟨by repeat (first | (with_reducible first | exact HB.out | apply bA | apply bN | apply bD | refine bS ?_ GE155.out) | exact HB.out)⟩⟩
    case round =>
     clear H'
     try clear c2
     try clear p2
     try clear c4
     try clear c6
     try clear p6
     try clear c9
     try clear hcz10_0
     try clear hcz10_1
     try clear hfz10_0
     try clear hfz10_1
     try clear p2
     obtain ⟨x6_2, x26_2, rfl, rfl, HA, HK2, HO_24, BK155, HB⟩ := hrel
     cases gk with
     | zero => exact absurd HA.out (by simp [dlog_Order.l0])
     | succ k2 =>
      have H := HA.out
      clear HA
      simp only [dlog_Order.l0] at H
      by_cases c16 : x26_2 < (t158.length : Int)
      ·rw [if_pos c16] at H
       have c16b0 : decide (x26_2 < (t158.length : Int)) = true := decide_eq_true c16
       clear c16
       by_cases c17 : 0 ≤ x26_2
       ·rw [if_pos c17] at H
        have c17b0 : decide (0 ≤ x26_2) = true := decide_eq_true c17
        clear c17
        by_cases c18 : x26_2 < (t158.length : Int)
        ·rw [if_pos c18] at H
         have c18b0 : decide (x26_2 < (t158.length : Int)) = true := decide_eq_true c18
         clear c18
         have H' := Q9a.mk H
         clear H
         have p164 : 0 ≤ (x26_2 : Int) := of_decide_eq_true (by first | (with_reducible assumption) | assumption)
         have q164 : x26_2 < (t158.length : Int) := of_decide_eq_true (by first | (with_reducible assumption) | assumption)
         obtain ⟨ad164, e164, hx164_0⟩ := Kd.at_int (Kd.R_reads' HO_24.out).2.2 x26_2 p164 q164
         cases e164
         replace p164 := eq_true p164
         replace q164 := eq_true q164
         go_wp2
         go_loopg [6] k2 (fun kq v6 w' => ∃ (x6_3 : Int), v6 = .int .i64 x6_3 ∧ Q9a (dlog_Order.l1 kq a0 a1 x6_3 (rd t158 x26_2) t158 (t158.length : Int) x26_2 = some (r1, r2, r3)) ∧ Q9a (kq ≤ k2) ∧ Q9a (Kd.R (Kd.int .i64) 3 w' w.heap.size (fun _ => True) (.slice (some ad164) t158.length co15) t158) ∧ Q9a (w'.heap[gb155]? = some (.cells #[.int .i64 0, (.slice none 0 0)] 26 (0, 0))) ∧ Q9a (Below w.heap.size w w'))
         case atStart => exact ⟨(x6_2), (by first | rfl | (simp; done) | (simp [*]; done)), H', ⟨Nat.le_refl _⟩, ⟨by (with_reducible repeat (first | apply Kd.R_alloc | apply Kd.R_drewN | apply Kd.R_drew)); exact HO_24.out⟩, ⟨by (with_reducible repeat (first | refine kN ?_ _ | refine kD ?_ | refine kA ?_ _)); exact BK155.out⟩, ⟨by repeat (first | (with_reducible first | exact HB.out | apply bA | apply bN | apply bD | refine bS ?_ GE155.out) | exact HB.out)⟩⟩
         case round =>
          clear H'
          try clear c1
          try clear p1
          try clear q1
          try clear hx1
          try clear c2
          try clear p2
          try clear c4
          try clear c6
          try clear p6
          try clear c9
          try clear c16
          try clear c16b0
          try clear p16
          try clear q16
          try clear hx16
          try clear c17
          try clear c17b0
          try clear c18
          try clear c18b0
          try clear hcz10_0
          try clear hcz10_1
          try clear hfz10_0
          try clear hfz10_1
          try clear hx164_0
          try clear p164
          try clear p2
          try clear p6
          try clear q164
          obtain ⟨x6_3, rfl, HA, HK3, HO_24, BK155, HB⟩ := hrel
          cases gk with
          | zero => exact absurd HA.out (by simp [dlog_Order.l1])
          | succ k3 =>
           have H := HA.out
           clear HA
           simp only [dlog_Order.l1] at H
           by_cases c19 : (rd t158 x26_2) = 0
           ·rw [if_pos c19] at H
            exact absurd H (by simp)
           ·rw [if_neg c19] at H
            have c19b0 : ((rd t158 x26_2) == 0) = false := beq_eq_false_iff_ne.mpr c19
            have c19b1 : ((rd t158 x26_2) != 0) = true := bne_iff_ne.mpr c19
            by_cases c20 : (Int.tmod x6_3 (rd t158 x26_2)) = 0
            ·rw [if_pos c20] at H
             have c20b0 : ((Int.tmod x6_3 (rd t158 x26_2)) == 0) = true := beq_iff_eq.mpr c20
             have c20b1 : ((Int.tmod x6_3 (rd t158 x26_2)) != 0) = false := bne_eq_false_iff_eq.mpr c20
             clear c20
             replace H := Option.bind_eq_some_iff.mp H
             obtain ⟨⟨t165, t166⟩, A210, H⟩ := H
             replace H : (if t165 = 1 then (dlog_Order.l1 k3 a0 a1 (wrap64 (Int.tdiv x6_3 (rd t158 x26_2))) (rd t158 x26_2) t158 (t158.length : Int) x26_2) else (dlog_Order.l0 k3 a0 a1 x6_3 t158 (t158.length : Int) (wrap64 (x26_2 + 1)))) = some (r1, r2, r3) := H
             have A21 := Q9a.mk A210
             clear A210
             by_cases c22 : t165 = 1
             ·rw [if_pos c22] at H
              have c22b0 : (t165 == 1) = true := beq_iff_eq.mpr c22
              have c22b1 : (t165 != 1) = false := bne_eq_false_iff_eq.mpr c22
              clear c22
              have H' := Q9a.mk H
              clear H
              go_wp2_with (first | ((with_reducible refine gate_callee (f := 16) rfl ?_); refine goesL_ (some 40) rfl rfl Try.func16 (by kernel_rfl) rfl #[.pointer (some ⟨b_a0, 0, none⟩), .int .i64 a1, .int .i64 (wrap64 (Int.tdiv x6_3 (rd t158 x26_2)))] rfl (by (try simp only [List.map_toArray, List.map_cons, List.map_nil]); first | done | rfl | (simp only [List.length_drop, List.length_take]; rfl)) ?_; (with_reducible refine (field_GF_Pow.calls b_a0 a0 a1 (wrap64 (Int.tdiv x6_3 (rd t158 x26_2))) t165 t166 _ ?side1 A21.out).mono ?_); (case side1 => exact GFok.belowT HG_a0.out (by repeat (first | (with_reducible first | exact HB.out | apply bA | apply bN | apply bD | refine bS ?_ GE155.out) | exact HB.out))); rintro e w23 ⟨rfl, hb⟩; refine ⟨_, rfl, ?_⟩; have n0_ := Q9a.mk (Kd.R_below (by (with_reducible repeat (first | apply Kd.R_alloc | apply Kd.R_drewN | apply Kd.R_drew)); exact HO_24.out) hb); have n1_ := Q9a.mk (kB (g := gb155) (o := .cells #[.int .i64 0, .slice none 0 0] 26 (0, 0)) (by (with_reducible repeat (first | refine kN ?_ _ | refine kD ?_ | refine kA ?_ _)); exact BK155.out) hb); have n2_ := Q9a.mk (bP (by repeat (first | (with_reducible first | exact HB.out | apply bA | apply bN | apply bD | refine bS ?_ GE155.out) | exact HB.out)) hb); clear HO_24; clear BK155; clear HB; have HO_24 := n0_; have BK155 := n1_; have HB := n2_; clear n0_ n1_ n2_; (try clear hb); (try clear hb2); (try clear hk); (try clear hi)))
              go_roundg k3
              case measure => have := HJ2.out; have := HK2.out; have := HK3.out; omega
              case rel => exact ⟨(wrap64 (Int.tdiv x6_3 (rd t158 x26_2))), (by first | rfl | (simp; done) | (simp [*]; done)), H', ⟨by have := HJ2.out; have := HK2.out; have := HK3.out; omega⟩, ⟨by (with_reducible repeat (first | apply Kd.R_alloc | apply Kd.R_drewN | apply Kd.R_drew)); exact HO_24.out⟩, ⟨by (with_reducible repeat (first | refine kN ?_ _ | refine kD ?_ | refine kA ?_ _)); exact BK155.out⟩, ⟨by repeat (first | (with_reducible first | exact HB.out | apply bA | apply bN | apply bD | refine bS ?_ GE155.out) | exact HB.out)⟩⟩
             ·rw [if_neg c22] at H
              have c22b0 : (t165 == 1) = false := beq_eq_false_iff_ne.mpr c22
              have c22b1 : (t165 != 1) = true := bne_iff_ne.mpr c22
              have H' := Q9a.mk H
              clear H
              go_wp2_with (first | ((with_reducible refine gate_callee (f := 16) rfl ?_); refine goesL_ (some 40) rfl rfl Try.func16 (by kernel_rfl) rfl #[.pointer (some ⟨b_a0, 0, none⟩), .int .i64 a1, .int .i64 (wrap64 (Int.tdiv x6_3 (rd t158 x26_2)))] rfl (by (try simp only [List.map_toArray, List.map_cons, List.map_nil]); first | done | rfl | (simp only [List.length_drop, List.length_take]; rfl)) ?_; (with_reducible refine (field_GF_Pow.calls b_a0 a0 a1 (wrap64 (Int.tdiv x6_3 (rd t158 x26_2))) t165 t166 _ ?side1 A21.out).mono ?_); (case side1 => exact GFok.belowT HG_a0.out (by repeat (first | (with_reducible first | exact HB.out | apply bA | apply bN | apply bD | refine bS ?_ GE155.out) | exact HB.out))); rintro e w24 ⟨rfl, hb⟩; refine ⟨_, rfl, ?_⟩; have n0_ := Q9a.mk (Kd.R_below (by (with_reducible repeat (first | apply Kd.R_alloc | apply Kd.R_drewN | apply Kd.R_drew)); exact HO_24.out) hb); have n1_ := Q9a.mk (kB (g := gb155) (o := .cells #[.int .i64 0, .slice none 0 0] 26 (0, 0)) (by (with_reducible repeat (first | refine kN ?_ _ | refine kD ?_ | refine kA ?_ _)); exact BK155.out) hb); have n2_ := Q9a.mk (bP (by repeat (first | (with_reducible first | exact HB.out | apply bA | apply bN | apply bD | refine bS ?_ GE155.out) | exact HB.out)) hb); clear HO_24; clear BK155; clear HB; have HO_24 := n0_; have BK155 := n1_; have HB := n2_; clear n0_ n1_ n2_; (try clear hb); (try clear hb2); (try clear hk); (try clear hi)))
              go_roundg k3
              case measure => have := HJ2.out; have := HK2.out; have := HK3.out; omega
              case rel => exact ⟨(x6_3), (wrap64 (x26_2 + 1)), (by first | rfl | (simp; done) | (simp [*]; done)), (by first | rfl | (simp; done) | (simp [*]; done)), H', ⟨by have := HJ2.out; have := HK2.out; have := HK3.out; omega⟩, ⟨by (with_reducible repeat (first | apply Kd.R_alloc | apply Kd.R_drewN | apply Kd.R_drew)); exact HO_24.out⟩, ⟨by (with_reducible repeat (first | refine kN ?_ _ | refine kD ?_ | refine kA ?_ _)); exact BK155.out⟩, ⟨by repeat (first | (with_reducible first | exact HB.out | apply bA | apply bN | apply bD | refine bS ?_ GE155.out) | exact HB.out)⟩⟩
            ·rw [if_neg c20] at H
             have c20b0 : ((Int.tmod x6_3 (rd t158 x26_2)) == 0) = false := beq_eq_false_iff_ne.mpr c20
             have c20b1 : ((Int.tmod x6_3 (rd t158 x26_2)) != 0) = true := bne_iff_ne.mpr c20
             have H' := Q9a.mk H
             clear H
             go_wp2
             go_roundg k3
             case measure => have := HJ2.out; have := HK2.out; have := HK3.out; omega
             case rel => exact ⟨(x6_3), (wrap64 (x26_2 + 1)), (by first | rfl | (simp; done) | (simp [*]; done)), (by first | rfl | (simp; done) | (simp [*]; done)), H', ⟨by have := HJ2.out; have := HK2.out; have := HK3.out; omega⟩, ⟨by (with_reducible repeat (first | apply Kd.R_alloc | apply Kd.R_drewN | apply Kd.R_drew)); exact HO_24.out⟩, ⟨by (with_reducible repeat (first | refine kN ?_ _ | refine kD ?_ | refine kA ?_ _)); exact BK155.out⟩, ⟨by repeat (first | (with_reducible first | exact HB.out | apply bA | apply bN | apply bD | refine bS ?_ GE155.out) | exact HB.out)⟩⟩
        ·rw [if_neg c18] at H
         exact absurd H (by simp)
       ·rw [if_neg c17] at H
        exact absurd H (by simp)
      ·rw [if_neg c16] at H
       have c16b0 : decide (x26_2 < (t158.length : Int)) = false := decide_eq_false c16
       clear c16
       replace H := Option.bind_eq_some_iff.mp H
       obtain ⟨t161, A250, H⟩ := H
       replace H : (some (x6_2, t161, 0)) = some (r1, r2, r3) := H
       have A25 := Q9a.mk A250
       clear A250
       simp only [Option.some.injEq, Prod.mk.injEq] at H
       obtain ⟨rfl, rfl, rfl⟩ := H
       go_wp2_with (first | ((with_reducible refine gate_callee (f := 43) rfl ?_); refine goesL_ (some 51) rfl rfl Try.func43 (by kernel_rfl) rfl #[.int .i64 x6_2] rfl (by (try simp only [List.map_toArray, List.map_cons, List.map_nil]); first | done | rfl | (simp only [List.length_drop, List.length_take]; rfl)) ?_; (with_reducible refine (dlog_primes.calls k2 x6_2 t161 _ A25.out).mono ?_); rintro e w26 ⟨v162, rfl, ho0, hb⟩; refine ⟨_, rfl, ?_⟩; have n0_ := Q9a.mk (Kd.R_elder' (by (with_reducible repeat (first | apply Kd.R_alloc | apply Kd.R_drewN | apply Kd.R_drew)); exact HO_24.out) (Kd.R_base ho0) hb); have n1_ := Q9a.mk (Kd.R_lower (Kd.R_new' ho0 (Kd.R_lt (by (with_reducible repeat (first | apply Kd.R_alloc | apply Kd.R_drewN | apply Kd.R_drew)); exact HO_24.out))) (bZ (by repeat (first | (with_reducible first | exact HB.out | apply bA | apply bN | apply bD | refine bS ?_ GE155.out) | exact HB.out)))); have n2_ := Q9a.mk (kB (g := gb155) (o := .cells #[.int .i64 0, .slice none 0 0] 26 (0, 0)) (by (with_reducible repeat (first | refine kN ?_ _ | refine kD ?_ | refine kA ?_ _)); exact BK155.out) hb); have n3_ := Q9a.mk (bP (by repeat (first | (with_reducible first | exact HB.out | apply bA | apply bN | apply bD | refine bS ?_ GE155.out) | exact HB.out)) hb); clear HO_24; clear BK155; clear HB; have HO_24 := n0_; have HO163 := n1_; have BK155 := n2_; have HB := n3_; clear n0_ n1_ n2_ n3_; (try clear hb); (try clear hb2); (try clear hk); (try clear hi); (try clear ho0); obtain ⟨Ao27, co27, eo27⟩ := Kd.R_slice HO163.out; subst eo27; have hcz28_0 : w26.cell? ⟨gb155, 0, none⟩ = some (.int .i64 0) := (kC BK155.out 0).trans rfl; have hcz28_1 : w26.cell? ⟨gb155, 1, none⟩ = some (.slice none 0 0) := (kC BK155.out 1).trans rfl; have hfz28_0 := kF BK155.out 0; have hfz28_1 := kF BK155.out 1))
       refine bodyPost_ret (results_ct rfl _ _ gb155 26 #[.int .i64 x6_2, .slice Ao27 t161.length co27] (0, 0) _ rfl (by (with_reducible repeat (first | refine kN ?_ _ | refine kD ?_ | refine kA ?_ _)); refine blk_put (cs := #[.int .i64 x6_2, .slice none 0 0]) ?_ 1 _ rfl; (with_reducible repeat (first | refine kN ?_ _ | refine kD ?_ | refine kA ?_ _)); refine blk_put (cs := #[.int .i64 0, .slice none 0 0]) ?_ 0 _ rfl; (with_reducible repeat (first | refine kN ?_ _ | refine kD ?_ | refine kA ?_ _)); exact BK155.out) Try.underlying26 rfl (by kernel_rfl)) rfl ?_
       exact ⟨_, by first | rfl | (simp [eN, eS] <;> rfl) | (simp [*, eN, eS] <;> rfl), by (with_reducible repeat (first | apply Kd.R_alloc | apply Kd.R_drewN | apply Kd.R_drew)); exact Kd.R_mono (Kd.R_far (p := ⟨gb155, 1, none⟩) (Kd.R_far (p := ⟨gb155, 0, none⟩) (Kd.R_types HO163.out BK155.out (by decide)) (fun _ hk => hk.2) (.int .i64 x6_2)) (fun _ hk => hk.2) (.slice Ao27 t161.length co27)) (fun _ hk => trivial), by repeat (first | (with_reducible first | exact HB.out | apply bA | apply bN | apply bD | refine bS ?_ GE155.out) | exact HB.out)⟩
def dlog_IsPrimitive.f (k : Nat) (a0 : GFv) (a1 : Int) : Option (Bool) := (dlog_Order.f k a0 a1).bind fun bt167 => (if bt167.2.2 = 0 then ((field_GF_Order.f a0).bind fun t173 => (some (bt167.1 == (wrap64 (t173 - 1))))) else (some false))
def dlog_IsPrimitive.T2 : Bool × List (List Nat × List Nat) := (true, [([], []), ([0], [0]), ([1], [1]), ([2], [2]), ([3, 2], [2, 3]), ([2], [2]), ([5, 2, 2], [2, 5]), ([6, 2], [2, 6]), ([4, 7, 2], [2, 4, 7]), ([2, 8], [2, 8]), ([9, 6, 0, 1, 2, 3, 4, 5, 6, 7, 8, 9], [9])])
def dlog_IsPrimitive.B2 : List Nat := [0, 1, 3, 7, 15, 7, 39, 103, 255, 511, 1023]
theorem dlog_IsPrimitive.tab2 : rtab .any (opsOf Try.f19 2) = dlog_IsPrimitive.T2 := by kernel_rfl
theorem dlog_IsPrimitive.bits2 : waitsOk dlog_IsPrimitive.T2.2 dlog_IsPrimitive.B2 = true := by kernel_rfl
set_option maxHeartbeats 8000000 in
set_option maxRecDepth 100000 in
theorem dlog_IsPrimitive.calls (k : Nat) (b_a0 : Nat) (a0 : GFv) (a1 : Int) (r : Bool) (w : World) (hg0 : GFok w b_a0 a0) (h : dlog_IsPrimitive.f k a0 a1 = some r) :
  Calls Try.prog 19 #[.pointer (some ⟨b_a0, 0, none⟩), .int .i64 a1] w fun e w' => e = .returned (.bool r) ∧ Below w.heap.size w w' := by
 have hu26 := Try.underlying26
 have HG_a0 := Q9a.mk hg0
 clear hg0
 have HB := Q9a.mk (Below.refl w.heap.size w)
 have H : ((dlog_Order.f k a0 a1).bind fun bt167 => (if bt167.2.2 = 0 then ((field_GF_Order.f a0).bind fun t173 => (some (bt167.1 == (wrap64 (t173 - 1))))) else (some false))) = some r := h
 clear h
 replace H := Option.bind_eq_some_iff.mp H
 obtain ⟨⟨t167, t168, t171⟩, A30, H⟩ := H
 replace H : (if t171 = 0 then ((field_GF_Order.f a0).bind fun t173 => (some (t167 == (wrap64 (t173 - 1))))) else (some false)) = some r := H
 have A3 := Q9a.mk A30
 clear A30
 by_cases c4 : t171 = 0
 ·rw [if_pos c4] at H
  have c4b0 : (t171 == 0) = true := beq_iff_eq.mpr c4
  have c4b1 : (t171 != 0) = false := bne_eq_false_iff_eq.mpr c4
  clear c4
  replace H := Option.bind_eq_some_iff.mp H
  obtain ⟨t173, A50, H⟩ := H
  replace H : (some (t167 == (wrap64 (t173 - 1)))) = some r := H
  have A5 := Q9a.mk A50
  clear A50
  obtain rfl := Option.some.inj H
  go_enter Try.func19, Try.ntmps19
  try go_wp2_with (first | ((with_reducible refine gate_callee (f := 21) rfl ?_); refine goesL_ (some 10) rfl rfl Try.func21 (by kernel_rfl) rfl #[.pointer (some ⟨b_a0, 0, none⟩), .int .i64 a1] rfl (by (try simp only [List.map_toArray, List.map_cons, List.map_nil]); first | done | rfl | (simp only [List.length_drop, List.length_take]; rfl)) ?_; (with_reducible refine (dlog_Order.calls k b_a0 a0 a1 t167 t168 t171 _ ?side1 A3.out).mono ?_); (case side1 => exact GFok.belowT HG_a0.out (by repeat (first | (with_reducible first | exact HB.out | apply bA | apply bN | apply bD) | exact HB.out))); rintro e w6 ⟨v169, rfl, ho0, hb⟩; refine ⟨_, rfl, ?_⟩; have n0_ := Q9a.mk (Kd.R_lower ho0 (bZ (by repeat (first | (with_reducible first | exact HB.out | apply bA | apply bN | apply bD) | exact HB.out)))); have n1_ := Q9a.mk (bP (by repeat (first | (with_reducible first | exact HB.out | apply bA | apply bN | apply bD) | exact HB.out)) hb); clear HB; have HO170 := n0_; have HB := n1_; clear n0_ n1_; (try clear hb); (try clear hb2); (try clear hk); (try clear hi); (try clear ho0)) | ((with_reducible refine gate_dst (N := 5) rfl ?_); refine box_event ?hg (N := 5) ?hd (cs := #[.int .i64 0, .slice none 0 0]) (t := 26) ?hr ?_; (case hd => rfl); (case hg => rfl); (case hr => first | (go_simp; done) | (go_simp; rfl)); intro gb172 hg w7 hbox hb; have n0_ := Q9a.mk (Kd.R_below (by (with_reducible repeat (first | apply Kd.R_alloc | apply Kd.R_drewN | apply Kd.R_drew)); exact HO170.out) hb); have n1_ := Q9a.mk (bP (by repeat (first | (with_reducible first | exact HB.out | apply bA | apply bN | apply bD) | exact HB.out)) hb); have n2_ := Q9a.mk (hbox); have n3_ := Q9a.mk ((by rw [hg]; exact (bZ (by repeat (first | (with_reducible first | exact HB.out | apply bA | apply bN | apply bD) | exact HB.out))) : w.heap.size ≤ gb172)); have n4_ := Q9a.mk ((by rw [hg]; exact (bZ (by repeat (first | (with_reducible first | exact HB.out | apply bA | apply bN | apply bD) | exact HB.out))) : w.heap.size ≤ gb172)); clear HO170; clear HB; have HO170 := n0_; have HB := n1_; have BK172 := n2_; have GW172 := n3_; have GE172 := n4_; clear n0_ n1_ n2_ n3_ n4_; clear hb hbox hg; have hcz8_0 : w7.cell? ⟨gb172, 0, none⟩ = some (.int .i64 0) := (kC BK172.out 0).trans rfl; have hcz8_1 : w7.cell? ⟨gb172, 1, none⟩ = some (.slice none 0 0) := (kC BK172.out 1).trans rfl; have hfz8_0 := kF BK172.out 0; have hfz8_1 := kF BK172.out 1; obtain ⟨Ao9, co9, eo9⟩ := Kd.R_slice HO170.out; subst eo9))
  have n0_ : Q9a (Kd.R (Kd.int .i64) 3 ((w7.setCell ⟨gb172, 0, none⟩ (.int .i64 t167)).setCell ⟨gb172, 1, none⟩ (.slice Ao9 t168.length co9)) w.heap.size (fun _ => True) (.slice Ao9 t168.length co9) t168) := ⟨by (with_reducible repeat (first | apply Kd.R_alloc | apply Kd.R_drewN | apply Kd.R_drew)); exact Kd.R_mono (Kd.R_far (p := ⟨gb172, 1, none⟩) (Kd.R_far (p := ⟨gb172, 0, none⟩) (Kd.R_types HO170.out BK172.out (by decide)) (fun _ hk => hk.2) (.int .i64 t167)) (fun _ hk => hk.2) (.slice Ao9 t168.length co9)) (fun _ hk => trivial)⟩
  have n1_ : Q9a (((w7.setCell ⟨gb172, 0, none⟩ (.int .i64 t167)).setCell ⟨gb172, 1, none⟩ (.slice Ao9 t168.length co9)).heap[gb172]? = some (.cells #[.int .i64 t167, .slice Ao9 t168.length co9] 26 (0, 0))) := ⟨by (with_reducible repeat (first | refine kN ?_ _ | refine kD ?_ | refine kA ?_ _)); refine blk_put (cs := #[.int .i64 t167, .slice none 0 0]) ?_ 1 _ rfl; (with_reducible repeat (first | refine kN ?_ _ | refine kD ?_ | refine kA ?_ _)); refine blk_put (cs := #[.int .i64 0, .slice none 0 0]) ?_ 0 _ rfl; (with_reducible repeat (first | refine kN ?_ _ | refine kD ?_ | refine kA ?_ _)); exact BK172.out⟩
  have n2_ : Q9a (Below w.heap.size w ((w7.setCell ⟨gb172, 0, none⟩ (.int .i64 t167)).setCell ⟨gb172, 1, none⟩ (.slice Ao9 t168.length co9))) := ⟨by repeat (first | (with_reducible first | exact HB.out | apply bA | apply bN | apply bD | refine bS ?_ GE172.out) | exact HB.out)⟩
  (try clear HO170)
  (try clear BK172)
  (try clear HB)
  generalize ((w7.setCell ⟨gb172, 0, none⟩ (.int .i64 t167)).setCell ⟨gb172, 1, none⟩ (.slice Ao9 t168.length co9)) = w10 at n0_ n1_ n2_ ⊢
  have HO170 := n0_
  have BK172 := n1_
  have HB := n2_
  clear n0_ n1_ n2_
  have n0_ := Q9a.mk (Kd.R_drew HO170.out)
  have n1_ := Q9a.mk (kD BK172.out)
  have n2_ := Q9a.mk (bD HB.out)
  clear HO170
  clear BK172
  clear HB
  have HO170 := n0_
  have BK172 := n1_
  have HB := n2_
  clear n0_ n1_ n2_
  refine start_ (n := 11) (S := fun w' => w'.cell? ⟨gb172, 0, none⟩ = some (.int .i64 t167) ∧ w'.cell? ⟨gb172, 1, none⟩ = some (.slice Ao9 t168.length co9)) (ds := []) #[false, false, false, false, false, false, false, false, false, false, false] (by kernel_rfl) rfl rfl ⟨(kC BK172.out 0).trans rfl, (kC BK172.out 1).trans rfl⟩ (fun hHeld => ?_); refine with_tabW dlog_IsPrimitive.tab2 dlog_IsPrimitive.bits2 (fun HT_ HW_ => ?_)
  generalize w10.drew = w11 at HO170 BK172 HB hHeld ⊢
  refine pure_ (i := 0) (N := some 13) (v := ?_) (a' := ?_) #[true, false, false, false, false, false, false, false, false, false, false] rfl rfl (any_of HT_.out (by kernel_rfl)) (fun _ _ _ h => h) (Or.inl ⟨by rfl, ?_⟩) ?_ ?_
  rotate_left
  ·intro w'
   go_simp
   with_reducible rfl
  rotate_left
  ·simp only [Act.put, sz1, sz2, sz3, i64_w, i32_w]
   rfl
  refine pure_ (i := 1) (N := some 14) (v := ?_) (a' := ?_) #[true, true, false, false, false, false, false, false, false, false, false] rfl rfl (any_of HT_.out (by kernel_rfl)) (fun _ _ _ h => h) (Or.inl ⟨by rfl, ?_⟩) ?_ ?_
  rotate_left
  ·intro w'
   go_simp
   with_reducible rfl
  rotate_left
  ·simp only [Act.put, sz1, sz2, sz3, i64_w, i32_w]
   rfl
  refine pure_ (i := 2) (N := some 15) (v := ?_) (a' := ?_) #[true, true, true, false, false, false, false, false, false, false, false] rfl rfl (any_of HT_.out (by kernel_rfl)) (fun _ _ _ h => h) (Or.inl ⟨by rfl, ?_⟩) ?_ ?_
  rotate_left
  ·intro w'
   go_simp
   with_reducible rfl
  rotate_left
  ·simp only [Act.put, sz1, sz2, sz3, i64_w, i32_w]
   rfl
  refine pure_ (i := 3) (N := some 16) (v := ?_) (a' := ?_) #[true, true, true, true, false, false, false, false, false, false, false] rfl rfl (any_of HT_.out (by kernel_rfl)) (fun _ _ _ h => h) (Or.inl ⟨by rfl, ?_⟩) ?_ ?_
  rotate_left
  ·intro w'
   go_simp
   with_reducible rfl
  rotate_left
  ·simp only [Act.put, sz1, sz2, sz3, i64_w, i32_w]
   rfl
  refine pure_ (i := 5) (N := some 18) (v := ?_) (a' := ?_) #[true, true, true, true, false, true, false, false, false, false, false] rfl rfl (any_of HT_.out (by kernel_rfl)) (fun _ _ _ h => h) (Or.inl ⟨by rfl, ?_⟩) ?_ ?_
  rotate_left
  ·intro w'
   go_simp
   with_reducible rfl
  rotate_left
  ·simp only [Act.put, sz1, sz2, sz3, i64_w, i32_w]
   rfl
  refine take_ (i := 4) (N := some 17) (v := ?_) (a' := ?_) #[true, true, true, true, true, true, false, false, false, false, false] rfl rfl (take_ofW HT_.out HW_.out (by kernel_rfl)) (fun _ _ _ h => h) (Or.inl ⟨by rfl, ?_⟩) hHeld ?_ ?_
  rotate_left
  ·rintro w' ⟨s0, s1⟩
   go_simp
   with_reducible rfl
  rotate_left
  ·simp only [Act.put, sz1, sz2, sz3, i64_w, i32_w]
   rfl
  refine one_ (i := 6) (N := some 19) #[true, true, true, true, true, true, true, false, false, false, false] rfl rfl (one_of HT_.out (by kernel_rfl)) (by decide) (fun K hK => ?_)
  refine goes_ Try.func41 (by kernel_rfl) rfl #[.pointer (some ⟨b_a0, 0, none⟩)] (by rfl) rfl rfl (by (try simp only [List.map_toArray, List.map_cons, List.map_nil]); first | done | rfl | (simp only [List.length_drop, List.length_take]; rfl)) ?_
  with_reducible refine (field_GF_Order.calls b_a0 a0 t173 _ ?side1 A5.out).mono ?_
  (case side1 => exact GFok.belowT HG_a0.out (by repeat (first | (with_reducible first | exact HB.out | apply bA | apply bN | apply bD | refine bS ?_ GE172.out) | exact HB.out)))
  rintro e w12 ⟨rfl, hb⟩
  refine ⟨_, rfl, ?_⟩
  have n0_ := Q9a.mk (Kd.R_below (by (with_reducible repeat (first | apply Kd.R_alloc | apply Kd.R_drewN | apply Kd.R_drew)); exact HO170.out) hb)
  have n1_ := Q9a.mk (kB (g := gb172) (o := .cells #[.int .i64 t167, .slice Ao9 t168.length co9] 26 (0, 0)) (by (with_reducible repeat (first | refine kN ?_ _ | refine kD ?_ | refine kA ?_ _)); exact BK172.out) hb)
  have n2_ := Q9a.mk (bP (by repeat (first | (with_reducible first | exact HB.out | apply bA | apply bN | apply bD | refine bS ?_ GE172.out) | exact HB.out)) hb)
  clear HO170
  clear BK172
  clear HB
  have HO170 := n0_
  have BK172 := n1_
  have HB := n2_
  clear n0_ n1_ n2_
  (try clear hb)
  (try clear hb2)
  (try clear hk)
  (try clear hi)
  refine hK.out _ _ ⟨(kC BK172.out 0).trans rfl, (kC BK172.out 1).trans rfl⟩ (fun hHeld => ?_)
  clear hK K
  refine norm_ (a' := ?_) ?_ ?_
  rotate_left
  ·show Act.put _ (some 19) _ = _
   simp only [Act.put, sz1, sz2, sz3, i64_w, i32_w]
   rfl
  refine pure_ (i := 7) (N := some 20) (v := ?_) (a' := ?_) #[true, true, true, true, true, true, true, true, false, false, false] rfl rfl (any_of HT_.out (by kernel_rfl)) (fun _ _ _ h => h) (Or.inl ⟨by rfl, ?_⟩) ?_ ?_
  rotate_left
  ·intro w'
   go_simp
   with_reducible rfl
  rotate_left
  ·simp only [Act.put, sz1, sz2, sz3, i64_w, i32_w]
   rfl
  refine pure_ (i := 8) (N := some 21) (v := ?_) (a' := ?_) #[true, true, true, true, true, true, true, true, true, false, false] rfl rfl (any_of HT_.out (by kernel_rfl)) (fun _ _ _ h => h) (Or.inl ⟨by rfl, ?_⟩) ?_ ?_
  rotate_left
  ·intro w'
   go_simp
   with_reducible rfl
  rotate_left
  ·simp only [Act.put, sz1, sz2, sz3, i64_w, i32_w]
   rfl
  refine pure_ (i := 9) (N := some 22) (v := ?_) (a' := ?_) #[true, true, true, true, true, true, true, true, true, true, false] rfl rfl (any_of HT_.out (by kernel_rfl)) (fun _ _ _ h => h) (Or.inl ⟨by rfl, ?_⟩) ?_ ?_
  rotate_left
  ·intro w'
   go_simp
   with_reducible rfl
  rotate_left
  ·simp only [Act.put, sz1, sz2, sz3, i64_w, i32_w]
   rfl
  refine pure_ (i := 10) (N := some 4) (v := ?_) (a' := ?_) #[true, true, true, true, true, true, true, true, true, true, true] rfl rfl (any_of HT_.out (by kernel_rfl)) (fun _ _ _ h => h) (Or.inl ⟨by rfl, ?_⟩) ?_ ?_
  rotate_left
  ·intro w'
   go_simp
   with_reducible rfl
  rotate_left
  ·simp only [Act.put, sz1, sz2, sz3, i64_w, i32_w]
   rfl
  refine done_ (done_of HT_.out (by kernel_rfl)) ?_
  try go_wp2
  go_ret
  exact ⟨by first | rfl | (simp [eN, eS] <;> rfl) | (simp [*, eN, eS] <;> rfl), by repeat (first | (with_reducible first | exact HB.out | apply bA | apply bN | apply bD | refine bS ?_ GE172.out) | exact HB.out)⟩
 ·rw [if_neg c4] at H
  have c4b0 : (t171 == 0) = false := beq_eq_false_iff_ne.mpr c4
  have c4b1 : (t171 != 0) = true := bne_iff_ne.mpr c4
  obtain rfl := Option.some.inj H
  go_enter Try.func19, Try.ntmps19
  try go_wp2_with (first | ((with_reducible refine gate_callee (f := 21) rfl ?_); refine goesL_ (some 10) rfl rfl Try.func21 (by kernel_rfl) rfl #[.pointer (some ⟨b_a0, 0, none⟩), .int .i64 a1] rfl (by (try simp only [List.map_toArray, List.map_cons, List.map_nil]); first | done | rfl | (simp only [List.length_drop, List.length_take]; rfl)) ?_; (with_reducible refine (dlog_Order.calls k b_a0 a0 a1 t167 t168 t171 _ ?side1 A3.out).mono ?_); (case side1 => exact GFok.belowT HG_a0.out (by repeat (first | (with_reducible first | exact HB.out | apply bA | apply bN | apply bD) | exact HB.out))); rintro e w13 ⟨v169, rfl, ho0, hb⟩; refine ⟨_, rfl, ?_⟩; have n0_ := Q9a.mk (Kd.R_lower ho0 (bZ (by repeat (first | (with_reducible first | exact HB.out | apply bA | apply bN | apply bD) | exact HB.out)))); have n1_ := Q9a.mk (bP (by repeat (first | (with_reducible first | exact HB.out | apply bA | apply bN | apply bD) | exact HB.out)) hb); clear HB; have HO170 := n0_; have HB := n1_; clear n0_ n1_; (try clear hb); (try clear hb2); (try clear hk); (try clear hi); (try clear ho0)) | ((with_reducible refine gate_dst (N := 5) rfl ?_); refine box_event ?hg (N := 5) ?hd (cs := #[.int .i64 0, .slice none 0 0]) (t := 26) ?hr ?_; (case hd => rfl); (case hg => rfl); (case hr => first | (go_simp; done) | (go_simp; rfl)); intro gb172 hg w14 hbox hb; have n0_ := Q9a.mk (Kd.R_below (by (with_reducible repeat (first | apply Kd.R_alloc | apply Kd.R_drewN | apply Kd.R_drew)); exact HO170.out) hb); have n1_ := Q9a.mk (bP (by repeat (first | (with_reducible first | exact HB.out | apply bA | apply bN | apply bD) | exact HB.out)) hb); have n2_ := Q9a.mk (hbox); have n3_ := Q9a.mk ((by rw [hg]; exact (bZ (by repeat (first | (with_reducible first | exact HB.out | apply bA | apply bN | apply bD) | exact HB.out))) : w.heap.size ≤ gb172)); have n4_ := Q9a.mk ((by rw [hg]; exact (bZ (by repeat (first | (with_reducible first | exact HB.out | apply bA | apply bN | apply bD) | exact HB.out))) : w.heap.size ≤ gb172)); clear HO170; clear HB; have HO170 := n0_; have HB := n1_; have BK172 := n2_; have GW172 := n3_; have GE172 := n4_; clear n0_ n1_ n2_ n3_ n4_; clear hb hbox hg; have hcz15_0 : w14.cell? ⟨gb172, 0, none⟩ = some (.int .i64 0) := (kC BK172.out 0).trans rfl; have hcz15_1 : w14.cell? ⟨gb172, 1, none⟩ = some (.slice none 0 0) := (kC BK172.out 1).trans rfl; have hfz15_0 := kF BK172.out 0; have hfz15_1 := kF BK172.out 1; obtain ⟨Ao16, co16, eo16⟩ := Kd.R_slice HO170.out; subst eo16))
  have n0_ : Q9a (Kd.R (Kd.int .i64) 3 ((w14.setCell ⟨gb172, 0, none⟩ (.int .i64 t167)).setCell ⟨gb172, 1, none⟩ (.slice Ao16 t168.length co16)) w.heap.size (fun _ => True) (.slice Ao16 t168.length co16) t168) := ⟨by (with_reducible repeat (first | apply Kd.R_alloc | apply Kd.R_drewN | apply Kd.R_drew)); exact Kd.R_mono (Kd.R_far (p := ⟨gb172, 1, none⟩) (Kd.R_far (p := ⟨gb172, 0, none⟩) (Kd.R_types HO170.out BK172.out (by decide)) (fun _ hk => hk.2) (.int .i64 t167)) (fun _ hk => hk.2) (.slice Ao16 t168.length co16)) (fun _ hk => trivial)⟩
  have n1_ : Q9a (((w14.setCell ⟨gb172, 0, none⟩ (.int .i64 t167)).setCell ⟨gb172, 1, none⟩ (.slice Ao16 t168.length co16)).heap[gb172]? = some (.cells #[.int .i64 t167, .slice Ao16 t168.length co16] 26 (0, 0))) := ⟨by (with_reducible repeat (first | refine kN ?_ _ | refine kD ?_ | refine kA ?_ _)); refine blk_put (cs := #[.int .i64 t167, .slice none 0 0]) ?_ 1 _ rfl; (with_reducible repeat (first | refine kN ?_ _ | refine kD ?_ | refine kA ?_ _)); refine blk_put (cs := #[.int .i64 0, .slice none 0 0]) ?_ 0 _ rfl; (with_reducible repeat (first | refine kN ?_ _ | refine kD ?_ | refine kA ?_ _)); exact BK172.out⟩
  have n2_ : Q9a (Below w.heap.size w ((w14.setCell ⟨gb172, 0, none⟩ (.int .i64 t167)).setCell ⟨gb172, 1, none⟩ (.slice Ao16 t168.length co16))) := ⟨by repeat (first | (with_reducible first | exact HB.out | apply bA | apply bN | apply bD | refine bS ?_ GE172.out) | exact HB.out)⟩
  (try clear HO170)
  (try clear BK172)
  (try clear HB)
  generalize ((w14.setCell ⟨gb172, 0, none⟩ (.int .i64 t167)).setCell ⟨gb172, 1, none⟩ (.slice Ao16 t168.length co16)) = w17 at n0_ n1_ n2_ ⊢
  have HO170 := n0_
  have BK172 := n1_
  have HB := n2_
  clear n0_ n1_ n2_
  have n0_ := Q9a.mk (Kd.R_drew HO170.out)
  have n1_ := Q9a.mk (kD BK172.out)
  have n2_ := Q9a.mk (bD HB.out)
  clear HO170
  clear BK172
  clear HB
  have HO170 := n0_
  have BK172 := n1_
  have HB := n2_
  clear n0_ n1_ n2_
  refine start_ (n := 11) (S := fun w' => True) (ds := []) #[false, false, false, false, false, false, false, false, false, false, false] (by kernel_rfl) rfl rfl trivial (fun hHeld => ?_); refine with_tabW dlog_IsPrimitive.tab2 dlog_IsPrimitive.bits2 (fun HT_ HW_ => ?_)
  generalize w17.drew = w18 at HO170 BK172 HB hHeld ⊢
  refine pure_ (i := 0) (N := some 13) (v := ?_) (a' := ?_) #[true, false, false, false, false, false, false, false, false, false, false] rfl rfl (any_of HT_.out (by kernel_rfl)) (fun _ _ _ h => h) (Or.inl ⟨by rfl, ?_⟩) ?_ ?_
  rotate_left
  ·intro w'
   go_simp
   with_reducible rfl
  rotate_left
  ·simp only [Act.put, sz1, sz2, sz3, i64_w, i32_w]
   rfl
  refine pure_ (i := 1) (N := some 14) (v := ?_) (a' := ?_) #[true, true, false, false, false, false, false, false, false, false, false] rfl rfl (any_of HT_.out (by kernel_rfl)) (fun _ _ _ h => h) (Or.inl ⟨by rfl, ?_⟩) ?_ ?_
  rotate_left
  ·intro w'
   go_simp
   with_reducible rfl
  rotate_left
  ·simp only [Act.put, sz1, sz2, sz3, i64_w, i32_w]
   rfl
  refine pure_ (i := 2) (N := some 15) (v := ?_) (a' := ?_) #[true, true, true, false, false, false, false, false, false, false, false] rfl rfl (any_of HT_.out (by kernel_rfl)) (fun _ _ _ h => h) (Or.inl ⟨by rfl, ?_⟩) ?_ ?_
  rotate_left
  ·intro w'
   go_simp
   with_reducible rfl
  rotate_left
  ·simp only [Act.put, sz1, sz2, sz3, i64_w, i32_w]
   rfl
  refine pure_ (i := 3) (N := some 16) (v := undef) (a' := ?_) #[true, true, true, true, false, false, false, false, false, false, false] rfl rfl (any_of HT_.out (by kernel_rfl)) (fun _ _ _ h => h) (Or.inr ⟨by rfl, rfl⟩) ?_ ?_
  rotate_left
  ·simp only [Act.put, sz1, sz2, sz3, i64_w, i32_w]
   rfl
  refine pure_ (i := 4) (N := some 17) (v := undef) (a' := ?_) #[true, true, true, true, true, false, false, false, false, false, false] rfl rfl (any_of HT_.out (by kernel_rfl)) (fun _ _ _ h => h) (Or.inr ⟨by rfl, rfl⟩) ?_ ?_
  rotate_left
  ·simp only [Act.put, sz1, sz2, sz3, i64_w, i32_w]
   rfl
  refine pure_ (i := 5) (N := some 18) (v := undef) (a' := ?_) #[true, true, true, true, true, true, false, false, false, false, false] rfl rfl (any_of HT_.out (by kernel_rfl)) (fun _ _ _ h => h) (Or.inr ⟨by rfl, rfl⟩) ?_ ?_
  rotate_left
  ·simp only [Act.put, sz1, sz2, sz3, i64_w, i32_w]
   rfl
  refine pure_ (i := 6) (N := some 19) (v := undef) (a' := ?_) #[true, true, true, true, true, true, true, false, false, false, false] rfl rfl (any_of HT_.out (by kernel_rfl)) (fun _ _ _ h => h) (Or.inr ⟨by rfl, rfl⟩) ?_ ?_
  rotate_left
  ·simp only [Act.put, sz1, sz2, sz3, i64_w, i32_w]
   rfl
  refine pure_ (i := 7) (N := some 20) (v := undef) (a' := ?_) #[true, true, true, true, true, true, true, true, false, false, false] rfl rfl (any_of HT_.out (by kernel_rfl)) (fun _ _ _ h => h) (Or.inr ⟨by rfl, rfl⟩) ?_ ?_
  rotate_left
  ·simp only [Act.put, sz1, sz2, sz3, i64_w, i32_w]
   rfl
  refine pure_ (i := 8) (N := some 21) (v := undef) (a' := ?_) #[true, true, true, true, true, true, true, true, true, false, false] rfl rfl (any_of HT_.out (by kernel_rfl)) (fun _ _ _ h => h) (Or.inr ⟨by rfl, rfl⟩) ?_ ?_
  rotate_left
  ·simp only [Act.put, sz1, sz2, sz3, i64_w, i32_w]
   rfl
  refine pure_ (i := 9) (N := some 22) (v := ?_) (a' := ?_) #[true, true, true, true, true, true, true, true, true, true, false] rfl rfl (any_of HT_.out (by kernel_rfl)) (fun _ _ _ h => h) (Or.inl ⟨by rfl, ?_⟩) ?_ ?_
  rotate_left
  ·intro w'
   go_simp
   with_reducible rfl
  rotate_left
  ·simp only [Act.put, sz1, sz2, sz3, i64_w, i32_w]
   rfl
  refine pure_ (i := 10) (N := some 4) (v := ?_) (a' := ?_) #[true, true, true, true, true, true, true, true, true, true, true] rfl rfl (any_of HT_.out (by kernel_rfl)) (fun _ _ _ h => h) (Or.inl ⟨by rfl, ?_⟩) ?_ ?_
  rotate_left
  ·intro w'
   go_simp
   with_reducible rfl
  rotate_left
  ·simp only [Act.put, sz1, sz2, sz3, i64_w, i32_w]
   rfl
  refine done_ (done_of HT_.out (by kernel_rfl)) ?_
  try go_wp2
  go_ret
  exact ⟨by first | rfl | (simp [eN, eS] <;> rfl) | (simp [*, eN, eS] <;> rfl), by repeat (first | (with_reducible first | exact HB.out | apply bA | apply bN | apply bD | refine bS ?_ GE172.out) | exact HB.out)⟩
end
end Go.Proofs.Ytbohbfggmnjpdaa.P
end
