/- What dlogPrimitive_holds needs: texts LP1, Q4, PureLP, put together. -/
import Derived.Test.YtbohbfggmnjpdaaKLP13
import Derived.Laws.CopyOwn
import Derived.Lib.LazyBuf
set_option linter.unusedVariables false
set_option linter.unusedSimpArgs false
-- LP1
section
namespace Go.Proofs.Ytbohbfggmnjpdaa.P
noncomputable section
open Go.RowKit Go.Proofs.Ytbohbfggmnjpdaa.Hand Go.Proofs.YtbohbfggmnjpdaaW.PrintWords Go.Proofs.YtbohbfggmnjpdaaW.PrintLast Go.Proofs.YtbohbfggmnjpdaaW.PrintMore
set_option linter.unusedVariables false
set_option linter.unusedSimpArgs false
def codewrightlaw08_DlogPrimitive.j0 : Nat → Int → GFv → Bool → Int → Int → List Int → Option (Bool)
  | 0, _, _, _, _, _, _ => none
  | k + 1, x1, x5, x28, x102000, x102001, x102002 => if x28 = true then (some false) else ((dlog_IsPrimitive.f k x5 x1).bind fun t109 => ((codewrightref08_IsPrimitive.f k x102000 x102001 x102002 x1).bind fun t110 => (some (t109 == t110))))
def codewrightlaw08_DlogPrimitive.f (k : Nat) (a0_0 : Int) (a0_1 : Int) (l0_2 : List Int) (a1 : Int) : Option (Bool) := (codewrightlaw08_open.f a0_0 a0_1 l0_2).bind fun bt102 => (optE bt102.1 (if bt102.2.1 = true then (some bt102.2.2) else (none)) (fun q105 => (if bt102.2.1 = true then (some bt102.2.2) else ((dlog_Primitive.f q105).bind fun t106 => ((codewrightref08_Primitive.f k a0_0 a0_1 l0_2).bind fun t107 => (if t106 = t107 then ((dlog_IsPrimitive.f k q105 t106).bind fun t108 => (codewrightlaw08_DlogPrimitive.j0 k a1 q105 (!t108) a0_0 a0_1 l0_2)) else (codewrightlaw08_DlogPrimitive.j0 k a1 q105 true a0_0 a0_1 l0_2)))))))
def codewrightlaw08_DlogPrimitive.T7 : Bool × List (List Nat × List Nat) := (true, [([], []), ([], []), ([0, 1], [0, 1]), ([], []), ([], []), ([3, 4, 2], [3, 4]), ([2, 5], [2, 5]), ([6, 5, 0, 1, 2, 3, 4, 5, 6], [6])])
def codewrightlaw08_DlogPrimitive.B7 : List Nat := [0, 0, 3, 0, 0, 31, 63, 127]
theorem codewrightlaw08_DlogPrimitive.tab7 : rtab .any (opsOf Try.f5 7) = codewrightlaw08_DlogPrimitive.T7 := by kernel_rfl
theorem codewrightlaw08_DlogPrimitive.bits7 : waitsOk codewrightlaw08_DlogPrimitive.T7.2 codewrightlaw08_DlogPrimitive.B7 = true := by kernel_rfl
set_option maxHeartbeats 8000000 in
set_option maxRecDepth 100000 in
theorem codewrightlaw08_DlogPrimitive.calls (k : Nat) (a0_0 : Int) (a0_1 : Int) (A0_2 : Option Addr) (c0_2 : Nat) (l0_2 : List Int) (a1 : Int) (r : Bool) (w : World) (hr0_2 : Kd.C (Kd.int .i64) w A0_2 l0_2.length l0_2) (hc0_2 : l0_2.length ≤ c0_2) (h : codewrightlaw08_DlogPrimitive.f k a0_0 a0_1 l0_2 a1 = some r) :
    Calls Try.prog 5 #[.agg #[.int .i64 a0_0, .int .i64 a0_1, .slice A0_2 l0_2.length c0_2], .int .i64 a1] w fun e w' => e = .returned (.bool r) ∧ Below w.heap.size w w' := by
  have hu24 := Try.underlying24
  have HR0_2 := Aside0.mk hr0_2
  have HC0_2 := Aside0.mk hc0_2
  clear hr0_2 hc0_2
  have HB := Aside0.mk (Below.refl w.heap.size w)
  have H : ((codewrightlaw08_open.f a0_0 a0_1 l0_2).bind fun bt102 => (optE bt102.1 (if bt102.2.1 = true then (some bt102.2.2) else (none)) (fun q105 => (if bt102.2.1 = true then (some bt102.2.2) else ((dlog_Primitive.f q105).bind fun t106 => ((codewrightref08_Primitive.f k a0_0 a0_1 l0_2).bind fun t107 => (if t106 = t107 then ((dlog_IsPrimitive.f k q105 t106).bind fun t108 => (codewrightlaw08_DlogPrimitive.j0 k a1 q105 (!t108) a0_0 a0_1 l0_2)) else (codewrightlaw08_DlogPrimitive.j0 k a1 q105 true a0_0 a0_1 l0_2)))))))) = some r := h
  clear h
  replace H := Option.bind_eq_some_iff.mp H
  obtain ⟨⟨t102, t103, t104⟩, A30, H⟩ := H
  replace H : (optE t102 (if t103 = true then (some t104) else (none)) (fun q105 => (if t103 = true then (some t104) else ((dlog_Primitive.f q105).bind fun t106 => ((codewrightref08_Primitive.f k a0_0 a0_1 l0_2).bind fun t107 => (if t106 = t107 then ((dlog_IsPrimitive.f k q105 t106).bind fun t108 => (codewrightlaw08_DlogPrimitive.j0 k a1 q105 (!t108) a0_0 a0_1 l0_2)) else (codewrightlaw08_DlogPrimitive.j0 k a1 q105 true a0_0 a0_1 l0_2))))))) = some r := H
  have A3 := Aside0.mk A30
  clear A30
  rcases t102 with _ | q105
  · have H1 : (if t103 = true then (some t104) else (none)) = some r := H
    clear H
    have H := H1
    clear H1
    by_cases c4 : t103 = true
    · subst c4
      have H1 : (some t104) = some r := by rw [if_pos rfl] at H; exact H
      clear H
      have H := H1
      clear H1
      obtain rfl := Option.some.inj H
      go_enter Try.func5, Try.ntmps5
      go_wp2_with (first | ((with_reducible refine gate_dst (N := 2) rfl ?_); refine box_event ?hg (N := 2) ?hd (cs := #[.int .i64 a0_0, .int .i64 a0_1, .slice A0_2 l0_2.length c0_2]) (t := 24) ?hr ?_; (case hd => rfl); (case hg => rfl); (case hr => first | (go_simp; done) | (go_simp; rfl)); intro gb101 hg w5 hbox hb; have n0_ := Aside0.mk (below_step (by repeat (first | (with_reducible first | exact HB.out | apply below_alloc | apply pw_below_drewN | apply below_drew1) | exact HB.out)) hb); have n1_ := Aside0.mk (hbox); have n2_ := Aside0.mk ((by rw [hg]; exact (below_size (by repeat (first | (with_reducible first | exact HB.out | apply below_alloc | apply pw_below_drewN | apply below_drew1) | exact HB.out))) : w.heap.size ≤ gb101)); have n3_ := Aside0.mk ((by rw [hg]; exact (below_size (by repeat (first | (with_reducible first | exact HB.out | apply below_alloc | apply pw_below_drewN | apply below_drew1) | exact HB.out))) : w.heap.size ≤ gb101)); clear HB; have HB := n0_; have BK101 := n1_; have GW101 := n2_; have GE101 := n3_; clear n0_ n1_ n2_ n3_; clear hb hbox hg; have hcz6_0 : w5.cell? ⟨gb101, 0, none⟩ = some (.int .i64 a0_0) := (blk_cell BK101.out 0).trans rfl; have hcz6_1 : w5.cell? ⟨gb101, 1, none⟩ = some (.int .i64 a0_1) := (blk_cell BK101.out 1).trans rfl; have hcz6_2 : w5.cell? ⟨gb101, 2, none⟩ = some (.slice A0_2 l0_2.length c0_2) := (blk_cell BK101.out 2).trans rfl; have hfz6_0 := blk_frozen BK101.out 0; have hfz6_1 := blk_frozen BK101.out 1; have hfz6_2 := blk_frozen BK101.out 2) | ((with_reducible refine gate_callee (f := 13) rfl ?_); refine goesL_ (some 11) rfl rfl Try.func13 (by kernel_rfl) rfl #[.agg #[.int .i64 a0_0, .int .i64 a0_1, .slice A0_2 l0_2.length c0_2]] rfl (by (try simp only [List.map_toArray, List.map_cons, List.map_nil]); first | done | rfl | (simp only [List.length_drop, List.length_take]; rfl)) ?_; (with_reducible refine (codewrightlaw08_open.calls a0_0 a0_1 _ _ l0_2 none true t104 _ ?side1 ?side2 A3.out).mono ?_); (case side1 => repeat (first | exact (Kd.C_below HR0_2.out HB.out) | (with_reducible refine Kd.C_alloc ?_ _) | (with_reducible refine Kd.C_drewN ?_ _) | (with_reducible refine Kd.C_drew ?_))); (case side2 => exact HC0_2.out); rintro e w7 ⟨b_, rfl, hb, hgo⟩; refine ⟨_, rfl, ?_⟩; have n0_ := Aside0.mk (blk_below (g := gb101) (o := .cells #[.int .i64 a0_0, .int .i64 a0_1, .slice A0_2 l0_2.length c0_2] 24 (0, 0)) (by (with_reducible repeat (first | refine blk_drewN ?_ _ | refine blk_drew ?_ | refine blk_alloc ?_ _)); exact BK101.out) hb); have n1_ := Aside0.mk (below_step (by repeat (first | (with_reducible first | exact HB.out | apply below_alloc | apply pw_below_drewN | apply below_drew1 | refine below_set ?_ GE101.out) | exact HB.out)) hb); clear BK101; clear HB; have BK101 := n0_; have HB := n1_; clear n0_ n1_; (try clear hb); (try clear hb2); (try clear hk); (try clear hi); (try simp only [gfW_none, gfW_some])))
      go_ret
      exact ⟨by first | rfl | (simp [errW_none, errW_some] <;> rfl) | (simp [*, errW_none, errW_some] <;> rfl), by repeat (first | (with_reducible first | exact HB.out | apply below_alloc | apply pw_below_drewN | apply below_drew1 | refine below_set ?_ GE101.out) | exact HB.out)⟩
    · replace c4 := Bool.eq_false_iff.mpr c4
      subst c4
      have H1 : (none) = some r := by rw [if_neg (show ¬ (false = true) by decide)] at H; exact H
      clear H
      have H := H1
      clear H1
      exact absurd H (by simp)
  · have H1 : (if t103 = true then (some t104) else ((dlog_Primitive.f q105).bind fun t106 => ((codewrightref08_Primitive.f k a0_0 a0_1 l0_2).bind fun t107 => (if t106 = t107 then ((dlog_IsPrimitive.f k q105 t106).bind fun t108 => (codewrightlaw08_DlogPrimitive.j0 k a1 q105 (!t108) a0_0 a0_1 l0_2)) else (codewrightlaw08_DlogPrimitive.j0 k a1 q105 true a0_0 a0_1 l0_2))))) = some r := H
    clear H
    have H := H1
    clear H1
    by_cases c8 : t103 = true
    · subst c8
      have H1 : (some t104) = some r := by rw [if_pos rfl] at H; exact H
      clear H
      have H := H1
      clear H1
      obtain rfl := Option.some.inj H
      go_enter Try.func5, Try.ntmps5
      go_wp2_with (first | ((with_reducible refine gate_dst (N := 2) rfl ?_); refine box_event ?hg (N := 2) ?hd (cs := #[.int .i64 a0_0, .int .i64 a0_1, .slice A0_2 l0_2.length c0_2]) (t := 24) ?hr ?_; (case hd => rfl); (case hg => rfl); (case hr => first | (go_simp; done) | (go_simp; rfl)); intro gb101 hg w9 hbox hb; have n0_ := Aside0.mk (below_step (by repeat (first | (with_reducible first | exact HB.out | apply below_alloc | apply pw_below_drewN | apply below_drew1) | exact HB.out)) hb); have n1_ := Aside0.mk (hbox); have n2_ := Aside0.mk ((by rw [hg]; exact (below_size (by repeat (first | (with_reducible first | exact HB.out | apply below_alloc | apply pw_below_drewN | apply below_drew1) | exact HB.out))) : w.heap.size ≤ gb101)); have n3_ := Aside0.mk ((by rw [hg]; exact (below_size (by repeat (first | (with_reducible first | exact HB.out | apply below_alloc | apply pw_below_drewN | apply below_drew1) | exact HB.out))) : w.heap.size ≤ gb101)); clear HB; have HB := n0_; have BK101 := n1_; have GW101 := n2_; have GE101 := n3_; clear n0_ n1_ n2_ n3_; clear hb hbox hg; have hcz10_0 : w9.cell? ⟨gb101, 0, none⟩ = some (.int .i64 a0_0) := (blk_cell BK101.out 0).trans rfl; have hcz10_1 : w9.cell? ⟨gb101, 1, none⟩ = some (.int .i64 a0_1) := (blk_cell BK101.out 1).trans rfl; have hcz10_2 : w9.cell? ⟨gb101, 2, none⟩ = some (.slice A0_2 l0_2.length c0_2) := (blk_cell BK101.out 2).trans rfl; have hfz10_0 := blk_frozen BK101.out 0; have hfz10_1 := blk_frozen BK101.out 1; have hfz10_2 := blk_frozen BK101.out 2) | ((with_reducible refine gate_callee (f := 13) rfl ?_); refine goesL_ (some 11) rfl rfl Try.func13 (by kernel_rfl) rfl #[.agg #[.int .i64 a0_0, .int .i64 a0_1, .slice A0_2 l0_2.length c0_2]] rfl (by (try simp only [List.map_toArray, List.map_cons, List.map_nil]); first | done | rfl | (simp only [List.length_drop, List.length_take]; rfl)) ?_; (with_reducible refine (codewrightlaw08_open.calls a0_0 a0_1 _ _ l0_2 (some q105) true t104 _ ?side1 ?side2 A3.out).mono ?_); (case side1 => repeat (first | exact (Kd.C_below HR0_2.out HB.out) | (with_reducible refine Kd.C_alloc ?_ _) | (with_reducible refine Kd.C_drewN ?_ _) | (with_reducible refine Kd.C_drew ?_))); (case side2 => exact HC0_2.out); rintro e w11 ⟨b_q105, rfl, hb, hgo⟩; refine ⟨_, rfl, ?_⟩; have n0_ := Aside0.mk (blk_below (g := gb101) (o := .cells #[.int .i64 a0_0, .int .i64 a0_1, .slice A0_2 l0_2.length c0_2] 24 (0, 0)) (by (with_reducible repeat (first | refine blk_drewN ?_ _ | refine blk_drew ?_ | refine blk_alloc ?_ _)); exact BK101.out) hb); have n1_ := Aside0.mk (below_step (by repeat (first | (with_reducible first | exact HB.out | apply below_alloc | apply pw_below_drewN | apply below_drew1 | refine below_set ?_ GE101.out) | exact HB.out)) hb); clear BK101; clear HB; have BK101 := n0_; have HB := n1_; clear n0_ n1_; (try clear hb); (try clear hb2); (try clear hk); (try clear hi); (try simp only [gfW_none, gfW_some]); have HBZ := HB; have HRn_ := Aside0.mk (Kd.C_below HR0_2.out HB.out); clear HR0_2; have HR0_2 := HRn_; clear HRn_; clear HB; obtain ⟨wz, rfl⟩ : ∃ z_ : World, z_ = w := ⟨_, rfl⟩; obtain ⟨w, rfl⟩ : ∃ z_ : World, z_ = w11 := ⟨_, rfl⟩; have HB := Aside0.mk (Below.refl w.heap.size w); have HG_q105 := Aside0.mk (hgo : GFok w b_q105 q105); clear hgo))
      go_ret
      exact ⟨by first | rfl | (simp [errW_none, errW_some] <;> rfl) | (simp [*, errW_none, errW_some] <;> rfl), belowZ HBZ.out (by repeat (first | (with_reducible first | exact HB.out | apply below_alloc | apply pw_below_drewN | apply below_drew1 | refine below_set ?_ GE101.out) | exact HB.out))⟩
    · replace c8 := Bool.eq_false_iff.mpr c8
      subst c8
      have H1 : ((dlog_Primitive.f q105).bind fun t106 => ((codewrightref08_Primitive.f k a0_0 a0_1 l0_2).bind fun t107 => (if t106 = t107 then ((dlog_IsPrimitive.f k q105 t106).bind fun t108 => (codewrightlaw08_DlogPrimitive.j0 k a1 q105 (!t108) a0_0 a0_1 l0_2)) else (codewrightlaw08_DlogPrimitive.j0 k a1 q105 true a0_0 a0_1 l0_2)))) = some r := by rw [if_neg (show ¬ (false = true) by decide)] at H; exact H
      clear H
      have H := H1
      clear H1
      replace H := Option.bind_eq_some_iff.mp H
      obtain ⟨t106, A120, H⟩ := H
      replace H : ((codewrightref08_Primitive.f k a0_0 a0_1 l0_2).bind fun t107 => (if t106 = t107 then ((dlog_IsPrimitive.f k q105 t106).bind fun t108 => (codewrightlaw08_DlogPrimitive.j0 k a1 q105 (!t108) a0_0 a0_1 l0_2)) else (codewrightlaw08_DlogPrimitive.j0 k a1 q105 true a0_0 a0_1 l0_2))) = some r := H
      have A12 := Aside0.mk A120
      clear A120
      have HC13 := Aside0.mk H
      clear H
      go_enter Try.func5, Try.ntmps5
      go_upto_region 5 with (first | ((with_reducible refine gate_dst (N := 2) rfl ?_); refine box_event ?hg (N := 2) ?hd (cs := #[.int .i64 a0_0, .int .i64 a0_1, .slice A0_2 l0_2.length c0_2]) (t := 24) ?hr ?_; (case hd => rfl); (case hg => rfl); (case hr => first | (go_simp; done) | (go_simp; rfl)); intro gb101 hg w14 hbox hb; have n0_ := Aside0.mk (below_step (by repeat (first | (with_reducible first | exact HB.out | apply below_alloc | apply pw_below_drewN | apply below_drew1) | exact HB.out)) hb); have n1_ := Aside0.mk (hbox); have n2_ := Aside0.mk ((by rw [hg]; exact (below_size (by repeat (first | (with_reducible first | exact HB.out | apply below_alloc | apply pw_below_drewN | apply below_drew1) | exact HB.out))) : w.heap.size ≤ gb101)); have n3_ := Aside0.mk ((by rw [hg]; exact (below_size (by repeat (first | (with_reducible first | exact HB.out | apply below_alloc | apply pw_below_drewN | apply below_drew1) | exact HB.out))) : w.heap.size ≤ gb101)); clear HB; have HB := n0_; have BK101 := n1_; have GW101 := n2_; have GE101 := n3_; clear n0_ n1_ n2_ n3_; clear hb hbox hg; have hcz15_0 : w14.cell? ⟨gb101, 0, none⟩ = some (.int .i64 a0_0) := (blk_cell BK101.out 0).trans rfl; have hcz15_1 : w14.cell? ⟨gb101, 1, none⟩ = some (.int .i64 a0_1) := (blk_cell BK101.out 1).trans rfl; have hcz15_2 : w14.cell? ⟨gb101, 2, none⟩ = some (.slice A0_2 l0_2.length c0_2) := (blk_cell BK101.out 2).trans rfl; have hfz15_0 := blk_frozen BK101.out 0; have hfz15_1 := blk_frozen BK101.out 1; have hfz15_2 := blk_frozen BK101.out 2) | ((with_reducible refine gate_callee (f := 13) rfl ?_); refine goesL_ (some 11) rfl rfl Try.func13 (by kernel_rfl) rfl #[.agg #[.int .i64 a0_0, .int .i64 a0_1, .slice A0_2 l0_2.length c0_2]] rfl (by (try simp only [List.map_toArray, List.map_cons, List.map_nil]); first | done | rfl | (simp only [List.length_drop, List.length_take]; rfl)) ?_; (with_reducible refine (codewrightlaw08_open.calls a0_0 a0_1 _ _ l0_2 (some q105) false t104 _ ?side1 ?side2 A3.out).mono ?_); (case side1 => repeat (first | exact (Kd.C_below HR0_2.out HB.out) | (with_reducible refine Kd.C_alloc ?_ _) | (with_reducible refine Kd.C_drewN ?_ _) | (with_reducible refine Kd.C_drew ?_))); (case side2 => exact HC0_2.out); rintro e w16 ⟨b_q105, rfl, hb, hgo⟩; refine ⟨_, rfl, ?_⟩; have n0_ := Aside0.mk (blk_below (g := gb101) (o := .cells #[.int .i64 a0_0, .int .i64 a0_1, .slice A0_2 l0_2.length c0_2] 24 (0, 0)) (by (with_reducible repeat (first | refine blk_drewN ?_ _ | refine blk_drew ?_ | refine blk_alloc ?_ _)); exact BK101.out) hb); have n1_ := Aside0.mk (below_step (by repeat (first | (with_reducible first | exact HB.out | apply below_alloc | apply pw_below_drewN | apply below_drew1 | refine below_set ?_ GE101.out) | exact HB.out)) hb); clear BK101; clear HB; have BK101 := n0_; have HB := n1_; clear n0_ n1_; (try clear hb); (try clear hb2); (try clear hk); (try clear hi); (try simp only [gfW_none, gfW_some]); have HBZ := HB; have HRn_ := Aside0.mk (Kd.C_below HR0_2.out HB.out); clear HR0_2; have HR0_2 := HRn_; clear HRn_; clear HB; obtain ⟨wz, rfl⟩ : ∃ z_ : World, z_ = w := ⟨_, rfl⟩; obtain ⟨w, rfl⟩ : ∃ z_ : World, z_ = w16 := ⟨_, rfl⟩; have HB := Aside0.mk (Below.refl w.heap.size w); have HG_q105 := Aside0.mk (hgo : GFok w b_q105 q105); clear hgo) | ((with_reducible refine gate_callee (f := 17) rfl ?_); refine goesL_ (some 18) rfl rfl Try.func17 (by kernel_rfl) rfl #[.pointer (some ⟨b_q105, 0, none⟩)] rfl (by (try simp only [List.map_toArray, List.map_cons, List.map_nil]); first | done | rfl | (simp only [List.length_drop, List.length_take]; rfl)) ?_; (with_reducible refine (dlog_Primitive.calls b_q105 q105 t106 _ ?side1 A12.out).mono ?_); (case side1 => exact GFok.belowT HG_q105.out (by repeat (first | (with_reducible first | exact HB.out | apply below_alloc | apply pw_below_drewN | apply below_drew1 | refine below_set ?_ GE101.out) | exact HB.out))); rintro e w17 ⟨rfl, hb⟩; refine ⟨_, rfl, ?_⟩; have n0_ := Aside0.mk (blk_below (g := gb101) (o := .cells #[.int .i64 a0_0, .int .i64 a0_1, .slice A0_2 l0_2.length c0_2] 24 (0, 0)) (by (with_reducible repeat (first | refine blk_drewN ?_ _ | refine blk_drew ?_ | refine blk_alloc ?_ _)); exact BK101.out) hb); have n1_ := Aside0.mk (below_step (by repeat (first | (with_reducible first | exact HB.out | apply below_alloc | apply pw_below_drewN | apply below_drew1 | refine below_set ?_ GE101.out) | exact HB.out)) hb); clear BK101; clear HB; have BK101 := n0_; have HB := n1_; clear n0_ n1_; (try clear hb); (try clear hb2); (try clear hk); (try clear hi)))
      (try simp only [Act.put, List.setIfInBounds_toArray, List.set_cons_zero, List.set_cons_succ])
      go_cut [28] (fun v28 wc => ∃ (kq : Nat) (x28_12 : Bool), v28 = .bool x28_12 ∧ Aside0 (codewrightlaw08_DlogPrimitive.j0 kq a1 q105 x28_12 a0_0 a0_1 l0_2 = some r) ∧ Aside0 (kq ≤ k) ∧ Aside0 (wc.heap[gb101]? = some (.cells #[.int .i64 a0_0, .int .i64 a0_1, (.slice A0_2 l0_2.length c0_2)] 24 (0, 0))) ∧ Aside0 (Below w.heap.size w wc))
      case first =>
        have H := HC13.out
        clear HC13
        replace H := Option.bind_eq_some_iff.mp H
        obtain ⟨t107, A180, H⟩ := H
        replace H : (if t106 = t107 then ((dlog_IsPrimitive.f k q105 t106).bind fun t108 => (codewrightlaw08_DlogPrimitive.j0 k a1 q105 (!t108) a0_0 a0_1 l0_2)) else (codewrightlaw08_DlogPrimitive.j0 k a1 q105 true a0_0 a0_1 l0_2)) = some r := H
        have A18 := Aside0.mk A180
        clear A180
        by_cases c19 : t106 = t107
        · rw [if_pos c19] at H
          have c19b0 : (t106 == t107) = true := beq_iff_eq.mpr c19
          have c19b1 : (t106 != t107) = false := bne_eq_false_iff_eq.mpr c19
          clear c19
          (first | rw [c19b0] | (simp only [i64_w, i32_w]; rw [c19b0]) | skip)
          replace H := Option.bind_eq_some_iff.mp H
          obtain ⟨t108, A200, H⟩ := H
          replace H : (codewrightlaw08_DlogPrimitive.j0 k a1 q105 (!t108) a0_0 a0_1 l0_2) = some r := H
          have A20 := Aside0.mk A200
          clear A200
          have H' := Aside0.mk H
          clear H
          have hcz21_0 : w17.cell? ⟨gb101, 0, none⟩ = some (.int .i64 a0_0) := (blk_cell BK101.out 0).trans rfl
          have hcz21_1 : w17.cell? ⟨gb101, 1, none⟩ = some (.int .i64 a0_1) := (blk_cell BK101.out 1).trans rfl
          have hcz21_2 : w17.cell? ⟨gb101, 2, none⟩ = some (.slice A0_2 l0_2.length c0_2) := (blk_cell BK101.out 2).trans rfl
          have hfz21_0 := blk_frozen BK101.out 0
          have hfz21_1 := blk_frozen BK101.out 1
          have hfz21_2 := blk_frozen BK101.out 2
          go_wp2_with (first | ((with_reducible refine gate_callee (f := 18) rfl ?_); refine goesL_ (some 21) rfl rfl Try.func18 (by kernel_rfl) rfl #[.agg #[.int .i64 a0_0, .int .i64 a0_1, .slice A0_2 l0_2.length c0_2]] rfl (by (try simp only [List.map_toArray, List.map_cons, List.map_nil]); first | done | rfl | (simp only [List.length_drop, List.length_take]; rfl)) ?_; (with_reducible refine (codewrightref08_Primitive.calls k a0_0 a0_1 _ _ l0_2 t107 _ ?side1 ?side2 A18.out).mono ?_); (case side1 => repeat (first | exact (Kd.C_below HR0_2.out HB.out) | (with_reducible refine Kd.C_alloc ?_ _) | (with_reducible refine Kd.C_drewN ?_ _) | (with_reducible refine Kd.C_drew ?_))); (case side2 => exact HC0_2.out); rintro e w22 ⟨rfl, hb⟩; refine ⟨_, rfl, ?_⟩; have n0_ := Aside0.mk (blk_below (g := gb101) (o := .cells #[.int .i64 a0_0, .int .i64 a0_1, .slice A0_2 l0_2.length c0_2] 24 (0, 0)) (by (with_reducible repeat (first | refine blk_drewN ?_ _ | refine blk_drew ?_ | refine blk_alloc ?_ _)); exact BK101.out) hb); have n1_ := Aside0.mk (below_step (by repeat (first | (with_reducible first | exact HB.out | apply below_alloc | apply pw_below_drewN | apply below_drew1 | refine below_set ?_ GE101.out) | exact HB.out)) hb); clear BK101; clear HB; have BK101 := n0_; have HB := n1_; clear n0_ n1_; (try clear hb); (try clear hb2); (try clear hk); (try clear hi)) | (go_at_call 19; (with_reducible refine (dlog_IsPrimitive.calls k b_q105 q105 t106 t108 _ ?side1 A20.out).mono ?_); (case side1 => exact GFok.belowT HG_q105.out (by repeat (first | (with_reducible first | exact HB.out | apply below_alloc | apply pw_below_drewN | apply below_drew1 | refine below_set ?_ GE101.out) | exact HB.out))); rintro e w23 ⟨rfl, hb⟩; have n0_ := Aside0.mk (blk_below (g := gb101) (o := .cells #[.int .i64 a0_0, .int .i64 a0_1, .slice A0_2 l0_2.length c0_2] 24 (0, 0)) (by (with_reducible repeat (first | refine blk_drewN ?_ _ | refine blk_drew ?_ | refine blk_alloc ?_ _)); exact BK101.out) hb); have n1_ := Aside0.mk (below_step (by repeat (first | (with_reducible first | exact HB.out | apply below_alloc | apply pw_below_drewN | apply below_drew1 | refine below_set ?_ GE101.out) | exact HB.out)) hb); clear BK101; clear HB; have BK101 := n0_; have HB := n1_; clear n0_ n1_; (try clear hb); (try clear hb2); (try clear hk); (try clear hi)))
          go_meet
          case rel => exact ⟨_, (!t108), (by first | rfl | (simp; done) | (simp [*]; done)), H', ⟨by first | omega | exact Nat.le_refl _⟩, ⟨by (with_reducible repeat (first | refine blk_drewN ?_ _ | refine blk_drew ?_ | refine blk_alloc ?_ _)); exact BK101.out⟩, ⟨by repeat (first | (with_reducible first | exact HB.out | apply below_alloc | apply pw_below_drewN | apply below_drew1 | refine below_set ?_ GE101.out) | exact HB.out)⟩⟩
        · rw [if_neg c19] at H
          have c19b0 : (t106 == t107) = false := beq_eq_false_iff_ne.mpr c19
          have c19b1 : (t106 != t107) = true := bne_iff_ne.mpr c19
          (first | rw [c19b0] | (simp only [i64_w, i32_w]; rw [c19b0]) | skip)
          have H' := Aside0.mk H
          clear H
          have hcz24_0 : w17.cell? ⟨gb101, 0, none⟩ = some (.int .i64 a0_0) := (blk_cell BK101.out 0).trans rfl
          have hcz24_1 : w17.cell? ⟨gb101, 1, none⟩ = some (.int .i64 a0_1) := (blk_cell BK101.out 1).trans rfl
          have hcz24_2 : w17.cell? ⟨gb101, 2, none⟩ = some (.slice A0_2 l0_2.length c0_2) := (blk_cell BK101.out 2).trans rfl
          have hfz24_0 := blk_frozen BK101.out 0
          have hfz24_1 := blk_frozen BK101.out 1
          have hfz24_2 := blk_frozen BK101.out 2
          go_wp2_with (first | ((with_reducible refine gate_callee (f := 18) rfl ?_); refine goesL_ (some 21) rfl rfl Try.func18 (by kernel_rfl) rfl #[.agg #[.int .i64 a0_0, .int .i64 a0_1, .slice A0_2 l0_2.length c0_2]] rfl (by (try simp only [List.map_toArray, List.map_cons, List.map_nil]); first | done | rfl | (simp only [List.length_drop, List.length_take]; rfl)) ?_; (with_reducible refine (codewrightref08_Primitive.calls k a0_0 a0_1 _ _ l0_2 t107 _ ?side1 ?side2 A18.out).mono ?_); (case side1 => repeat (first | exact (Kd.C_below HR0_2.out HB.out) | (with_reducible refine Kd.C_alloc ?_ _) | (with_reducible refine Kd.C_drewN ?_ _) | (with_reducible refine Kd.C_drew ?_))); (case side2 => exact HC0_2.out); rintro e w25 ⟨rfl, hb⟩; refine ⟨_, rfl, ?_⟩; have n0_ := Aside0.mk (blk_below (g := gb101) (o := .cells #[.int .i64 a0_0, .int .i64 a0_1, .slice A0_2 l0_2.length c0_2] 24 (0, 0)) (by (with_reducible repeat (first | refine blk_drewN ?_ _ | refine blk_drew ?_ | refine blk_alloc ?_ _)); exact BK101.out) hb); have n1_ := Aside0.mk (below_step (by repeat (first | (with_reducible first | exact HB.out | apply below_alloc | apply pw_below_drewN | apply below_drew1 | refine below_set ?_ GE101.out) | exact HB.out)) hb); clear BK101; clear HB; have BK101 := n0_; have HB := n1_; clear n0_ n1_; (try clear hb); (try clear hb2); (try clear hk); (try clear hi)))
          go_meet
          case rel => exact ⟨_, (true), (by first | rfl | (simp; done) | (simp [*]; done)), H', ⟨by first | omega | exact Nat.le_refl _⟩, ⟨by (with_reducible repeat (first | refine blk_drewN ?_ _ | refine blk_drew ?_ | refine blk_alloc ?_ _)); exact BK101.out⟩, ⟨by repeat (first | (with_reducible first | exact HB.out | apply below_alloc | apply pw_below_drewN | apply below_drew1 | refine below_set ?_ GE101.out) | exact HB.out)⟩⟩
      case rest =>
        clear HC13
        try clear c1
        try clear q1
        try clear p2
        try clear c4
        try clear c5
        try clear c8
        try clear q10
        try clear c13
        try clear c17
        try clear c18
        try clear c19
        try clear c19b0
        try clear c19b1
        try clear hcz10_0
        try clear hcz10_1
        try clear hcz10_2
        try clear hcz15_0
        try clear hcz15_1
        try clear hcz15_2
        try clear hcz21_0
        try clear hcz21_1
        try clear hcz21_2
        try clear hcz24_0
        try clear hcz24_1
        try clear hcz24_2
        try clear hcz6_0
        try clear hcz6_1
        try clear hcz6_2
        try clear hfz10_0
        try clear hfz10_1
        try clear hfz10_2
        try clear hfz15_0
        try clear hfz15_1
        try clear hfz15_2
        try clear hfz21_0
        try clear hfz21_1
        try clear hfz21_2
        try clear hfz24_0
        try clear hfz24_1
        try clear hfz24_2
        try clear hfz6_0
        try clear hfz6_1
        try clear hfz6_2
        try clear q105
        obtain ⟨kq, x28_12, rfl, HA, HJ12, BK101, HB⟩ := hcut
        cases kq with
        | zero => exact absurd HA.out (by simp [codewrightlaw08_DlogPrimitive.j0])
        | succ kj12 =>
          have H := HA.out
          clear HA
          simp only [codewrightlaw08_DlogPrimitive.j0] at H
          by_cases c26 : x28_12 = true
          · subst c26
            have H1 : (some false) = some r := by rw [if_pos rfl] at H; exact H
            clear H
            have H := H1
            clear H1
            obtain rfl := Option.some.inj H
            go_wp2
            go_ret
            exact ⟨by first | rfl | (simp [errW_none, errW_some] <;> rfl) | (simp [*, errW_none, errW_some] <;> rfl), belowZ HBZ.out (by repeat (first | (with_reducible first | exact HB.out | apply below_alloc | apply pw_below_drewN | apply below_drew1 | refine below_set ?_ GE101.out) | exact HB.out))⟩
          · replace c26 := Bool.eq_false_iff.mpr c26
            subst c26
            have H1 : ((dlog_IsPrimitive.f kj12 q105 a1).bind fun t109 => ((codewrightref08_IsPrimitive.f kj12 a0_0 a0_1 l0_2 a1).bind fun t110 => (some (t109 == t110)))) = some r := by rw [if_neg (show ¬ (false = true) by decide)] at H; exact H
            clear H
            have H := H1
            clear H1
            replace H := Option.bind_eq_some_iff.mp H
            obtain ⟨t109, A270, H⟩ := H
            replace H : ((codewrightref08_IsPrimitive.f kj12 a0_0 a0_1 l0_2 a1).bind fun t110 => (some (t109 == t110))) = some r := H
            have A27 := Aside0.mk A270
            clear A270
            replace H := Option.bind_eq_some_iff.mp H
            obtain ⟨t110, A280, H⟩ := H
            replace H : (some (t109 == t110)) = some r := H
            have A28 := Aside0.mk A280
            clear A280
            obtain rfl := Option.some.inj H
            try go_wp2
            have n0_ := Aside0.mk (blk_drew BK101.out)
            have n1_ := Aside0.mk (below_drew1 HB.out)
            clear BK101
            clear HB
            have BK101 := n0_
            have HB := n1_
            clear n0_ n1_
            refine start_ (n := 8) (S := fun w' => w'.cell? ⟨gb101, 0, none⟩ = some (.int .i64 a0_0) ∧ w'.cell? ⟨gb101, 1, none⟩ = some (.int .i64 a0_1) ∧ w'.cell? ⟨gb101, 2, none⟩ = some (.slice A0_2 l0_2.length c0_2)) (ds := []) #[false, false, false, false, false, false, false, false] (by kernel_rfl) rfl rfl ⟨(blk_cell BK101.out 0).trans rfl, (blk_cell BK101.out 1).trans rfl, (blk_cell BK101.out 2).trans rfl⟩ (fun hHeld => ?_); refine with_tabW codewrightlaw08_DlogPrimitive.tab7 codewrightlaw08_DlogPrimitive.bits7 (fun HT_ HW_ => ?_)
            generalize wc.drew = w29 at BK101 HB hHeld ⊢
            refine pure_ (i := 0) (N := some 29) (v := ?_) (a' := ?_) #[true, false, false, false, false, false, false, false] rfl rfl (any_of HT_.out (by kernel_rfl)) (fun _ _ _ h => h) (Or.inl ⟨by rfl, ?_⟩) ?_ ?_
            rotate_left
            · intro w'
              go_simp
              with_reducible rfl
            rotate_left
            · simp only [Act.put, List.setIfInBounds_toArray, List.set_cons_zero, List.set_cons_succ, i64_w, i32_w]
              rfl
            refine pure_ (i := 1) (N := some 30) (v := ?_) (a' := ?_) #[true, true, false, false, false, false, false, false] rfl rfl (any_of HT_.out (by kernel_rfl)) (fun _ _ _ h => h) (Or.inl ⟨by rfl, ?_⟩) ?_ ?_
            rotate_left
            · intro w'
              go_simp
              with_reducible rfl
            rotate_left
            · simp only [Act.put, List.setIfInBounds_toArray, List.set_cons_zero, List.set_cons_succ, i64_w, i32_w]
              rfl
            refine pure_ (i := 4) (N := some 33) (v := ?_) (a' := ?_) #[true, true, false, false, true, false, false, false] rfl rfl (any_of HT_.out (by kernel_rfl)) (fun _ _ _ h => h) (Or.inl ⟨by rfl, ?_⟩) ?_ ?_
            rotate_left
            · intro w'
              go_simp
              with_reducible rfl
            rotate_left
            · simp only [Act.put, List.setIfInBounds_toArray, List.set_cons_zero, List.set_cons_succ, i64_w, i32_w]
              rfl
            refine take_ (i := 3) (N := some 32) (v := ?_) (a' := ?_) #[true, true, false, true, true, false, false, false] rfl rfl (take_ofW HT_.out HW_.out (by kernel_rfl)) (fun _ _ _ h => h) (Or.inl ⟨by rfl, ?_⟩) hHeld ?_ ?_
            rotate_left
            · rintro w' ⟨s0, s1, s2⟩
              go_simp
              with_reducible rfl
            rotate_left
            · simp only [Act.put, List.setIfInBounds_toArray, List.set_cons_zero, List.set_cons_succ, i64_w, i32_w]
              rfl
            refine one_ (i := 2) (N := some 31) #[true, true, true, true, true, false, false, false] rfl rfl (one_of HT_.out (by kernel_rfl)) (by decide) (fun K hK => ?_)
            refine goes_ Try.func19 (by kernel_rfl) rfl #[.pointer (some ⟨b_q105, 0, none⟩), .int .i64 a1] (by rfl) rfl rfl (by (try simp only [List.map_toArray, List.map_cons, List.map_nil]); first | done | rfl | (simp only [List.length_drop, List.length_take]; rfl)) ?_
            with_reducible refine (dlog_IsPrimitive.calls kj12 b_q105 q105 a1 t109 _ ?side1 A27.out).mono ?_
            (case side1 => exact GFok.belowT HG_q105.out (by repeat (first | (with_reducible first | exact HB.out | apply below_alloc | apply pw_below_drewN | apply below_drew1 | refine below_set ?_ GE101.out) | exact HB.out)))
            rintro e w30 ⟨rfl, hb⟩
            refine ⟨_, rfl, ?_⟩
            have n0_ := Aside0.mk (blk_below (g := gb101) (o := .cells #[.int .i64 a0_0, .int .i64 a0_1, .slice A0_2 l0_2.length c0_2] 24 (0, 0)) (by (with_reducible repeat (first | refine blk_drewN ?_ _ | refine blk_drew ?_ | refine blk_alloc ?_ _)); exact BK101.out) hb)
            have n1_ := Aside0.mk (below_step (by repeat (first | (with_reducible first | exact HB.out | apply below_alloc | apply pw_below_drewN | apply below_drew1 | refine below_set ?_ GE101.out) | exact HB.out)) hb)
            clear BK101
            clear HB
            have BK101 := n0_
            have HB := n1_
            clear n0_ n1_
            (try clear hb)
            (try clear hb2)
            (try clear hk)
            (try clear hi)
            refine hK.out _ _ ⟨(blk_cell BK101.out 0).trans rfl, (blk_cell BK101.out 1).trans rfl, (blk_cell BK101.out 2).trans rfl⟩ (fun hHeld => ?_)
            clear hK K
            refine norm_ (a' := ?_) ?_ ?_
            rotate_left
            · show Act.put _ (some 31) _ = _
              simp only [Act.put, List.setIfInBounds_toArray, List.set_cons_zero, List.set_cons_succ, i64_w, i32_w]
              rfl
            refine one_ (i := 5) (N := some 34) #[true, true, true, true, true, true, false, false] rfl rfl (one_of HT_.out (by kernel_rfl)) (by decide) (fun K hK => ?_)
            refine goes_ Try.func20 (by kernel_rfl) rfl #[.agg #[.int .i64 a0_0, .int .i64 a0_1, .slice A0_2 l0_2.length c0_2], .int .i64 a1] (by rfl) rfl rfl (by (try simp only [List.map_toArray, List.map_cons, List.map_nil]); first | done | rfl | (simp only [List.length_drop, List.length_take]; rfl)) ?_
            with_reducible refine (codewrightref08_IsPrimitive.calls kj12 a0_0 a0_1 _ _ l0_2 a1 t110 _ ?side1 ?side2 A28.out).mono ?_
            (case side1 => repeat (first | exact (Kd.C_below HR0_2.out HB.out) | (with_reducible refine Kd.C_alloc ?_ _) | (with_reducible refine Kd.C_drewN ?_ _) | (with_reducible refine Kd.C_drew ?_)))
            (case side2 => exact HC0_2.out)
            rintro e w31 ⟨rfl, hb⟩
            refine ⟨_, rfl, ?_⟩
            have n0_ := Aside0.mk (blk_below (g := gb101) (o := .cells #[.int .i64 a0_0, .int .i64 a0_1, .slice A0_2 l0_2.length c0_2] 24 (0, 0)) (by (with_reducible repeat (first | refine blk_drewN ?_ _ | refine blk_drew ?_ | refine blk_alloc ?_ _)); exact BK101.out) hb)
            have n1_ := Aside0.mk (below_step (by repeat (first | (with_reducible first | exact HB.out | apply below_alloc | apply pw_below_drewN | apply below_drew1 | refine below_set ?_ GE101.out) | exact HB.out)) hb)
            clear BK101
            clear HB
            have BK101 := n0_
            have HB := n1_
            clear n0_ n1_
            (try clear hb)
            (try clear hb2)
            (try clear hk)
            (try clear hi)
            refine hK.out _ _ ⟨(blk_cell BK101.out 0).trans rfl, (blk_cell BK101.out 1).trans rfl, (blk_cell BK101.out 2).trans rfl⟩ (fun hHeld => ?_)
            clear hK K
            refine norm_ (a' := ?_) ?_ ?_
            rotate_left
            · show Act.put _ (some 34) _ = _
              simp only [Act.put, List.setIfInBounds_toArray, List.set_cons_zero, List.set_cons_succ, i64_w, i32_w]
              rfl
            refine pure_ (i := 6) (N := some 35) (v := ?_) (a' := ?_) #[true, true, true, true, true, true, true, false] rfl rfl (any_of HT_.out (by kernel_rfl)) (fun _ _ _ h => h) (Or.inl ⟨by rfl, ?_⟩) ?_ ?_
            rotate_left
            · intro w'
              go_simp
              with_reducible rfl
            rotate_left
            · simp only [Act.put, List.setIfInBounds_toArray, List.set_cons_zero, List.set_cons_succ, i64_w, i32_w]
              rfl
            refine pure_ (i := 7) (N := some 4) (v := ?_) (a' := ?_) #[true, true, true, true, true, true, true, true] rfl rfl (any_of HT_.out (by kernel_rfl)) (fun _ _ _ h => h) (Or.inl ⟨by rfl, ?_⟩) ?_ ?_
            rotate_left
            · intro w'
              go_simp
              with_reducible rfl
            rotate_left
            · simp only [Act.put, List.setIfInBounds_toArray, List.set_cons_zero, List.set_cons_succ, i64_w, i32_w]
              rfl
            refine done_ (done_of HT_.out (by kernel_rfl)) ?_
            try go_wp2
            go_ret
            exact ⟨by first | rfl | (simp [errW_none, errW_some] <;> rfl) | (simp [*, errW_none, errW_some] <;> rfl), belowZ HBZ.out (by repeat (first | (with_reducible first | exact HB.out | apply below_alloc | apply pw_below_drewN | apply below_drew1 | refine below_set ?_ GE101.out) | exact HB.out))⟩
end
end Go.Proofs.Ytbohbfggmnjpdaa.P
end
-- Q4
section
namespace Go.Proofs.Ytbohbfggmnjpdaa.Pl
open Go.RowKit Go.Proofs.Ytbohbfggmnjpdaa.P Go.Proofs.Ytbohbfggmnjpdaa.Hand Go.Proofs.YtbohbfggmnjpdaaW.PrintWords
variable {G : GFv} {P M : Int} {mod : List Int}
open Classical in
noncomputable def prB (G : GFv) (x : Int) : Bool := decide (Cw.IsOrd (G.el x) (G.q - 1))
open Classical in
theorem is_isPrimitive (h : Is G P M mod) (x : Int) : Ev (fun k => codewrightref08_IsPrimitive.f k P M mod x) (prB G x) := by
  have hq := G.q_le
  have hq2 := G.q_ge
  have hk : wrap64 ((G.q : Int) - 1) = ((G.q - 1 : Nat) : Int) := by rw [w64 (by omega) (by omega)]; omega
  unfold prB
  by_cases hx : G.el x = 0
  · refine Ev.bind (is_mulOrder_zero h x hx) (Ev.bind (is_order04 h) ?_)
    refine Ev.congr (fun k => ?_) (Ev.now _)
    congr 1
    rw [decide_eq_false (fun h => h.ne hx), hk]
    exact beq_eq_false_iff_ne.2 (by omega)
  · obtain ⟨o, ho⟩ := Cw.ord_ex hx
    refine Ev.bind (is_mulOrder h x ho) (Ev.bind (is_order04 h) ?_)
    refine Ev.congr (fun k => ?_) (Ev.now _)
    congr 1
    rw [hk]
    by_cases hh : o = G.q - 1
    · rw [decide_eq_true (hh ▸ ho)]
      exact beq_iff_eq.2 (by omega)
    · rw [decide_eq_false (fun h' => hh (ho.unique h'))]
      exact beq_eq_false_iff_ne.2 (by omega)
open Classical in
theorem prim_least (G : GFv) : ∃ r : Nat, 1 ≤ r ∧ r ≤ G.q - 1 ∧ prB G (r : Int) = true ∧ ∀ c : Nat, c < r → prB G (c : Int) = false := by
  have hq := G.q_le
  have hq2 := G.q_ge
  obtain ⟨a, ha⟩ := Cw.prim_ex (K := Cw.El G.F)
  have ha' : Cw.IsOrd a (G.q - 1) := ha
  obtain ⟨r, hr, hmin⟩ := Cw.least_ex (P := fun n => prB G (n : Int) = true) ⟨a.code, decide_eq_true (by
    have : G.el ((a.code : Nat) : Int) = a := G.el_num a
    rw [this]; exact ha')⟩
  have h0 : r ≠ 0 := by
    rintro rfl
    have h9 := of_decide_eq_true hr
    have : G.el ((0 : Nat) : Int) = 0 := G.el_zero
    rw [this] at h9
    exact h9.ne rfl
  have hle : r ≤ a.code := by
    refine Nat.le_of_not_lt (fun hlt => hmin a.code hlt (decide_eq_true ?_))
    have : G.el ((a.code : Nat) : Int) = a := G.el_num a
    rw [this]; exact ha'
  have hcl : a.code < G.q := a.code_lt
  exact ⟨r, by omega, by omega, hr, fun c hc => Bool.eq_false_iff.mpr (hmin c hc)⟩
open Classical in
theorem prim08_loop (h : Is G P M mod) (r : Nat) (h1 : r ≤ G.q - 1) (hr : prB G (r : Int) = true) (hmin : ∀ c : Nat, c < r → prB G (c : Int) = false) : ∀ e x, x + e = r → Ev (fun k => codewrightref08_Primitive.l0 k (x : Int) P M mod) (r : Int) := by
  intro e
  have hq := G.q_le
  have hq2 := G.q_ge
  have hk : wrap64 ((G.q : Int) - 1) = ((G.q - 1 : Nat) : Int) := by rw [w64 (by omega) (by omega)]; omega
  induction e with
  | zero =>
    intro x hx
    obtain rfl : x = r := by omega
    refine Ev.step (fun k => by simp only [codewrightref08_Primitive.l0]; rfl) (Ev.bind (is_order04 h) ?_)
    rw [hk]
    by_cases hc : (x : Int) < ((G.q - 1 : Nat) : Int)
    · refine Ev.congr (fun k => if_pos hc) ?_
      have hp := is_isPrimitive h (x : Int)
      rw [hr] at hp
      refine Ev.bind hp ?_
      exact Ev.congr (fun k => if_pos rfl) (Ev.now _)
    · exact Ev.congr (fun k => if_neg hc) (Ev.now _)
  | succ e ih =>
    intro x hx
    have hx1 : wrap64 ((x : Int) + 1) = ((x + 1 : Nat) : Int) := by rw [w64 (by omega) (by omega)]; rfl
    refine Ev.step (fun k => by simp only [codewrightref08_Primitive.l0]; rfl) (Ev.bind (is_order04 h) ?_)
    rw [hk]
    refine Ev.congr (fun k => if_pos (by omega)) ?_
    have hp := is_isPrimitive h (x : Int)
    rw [hmin x (by omega)] at hp
    refine Ev.bind hp ?_
    refine Ev.congr (fun k => if_neg Bool.false_ne_true) ?_
    rw [hx1]
    exact ih (x + 1) (by omega)
theorem find_upto (b : Int → Bool) (r n : Nat) (hrn : r < n) (hr : b (r : Int) = true) (hmin : ∀ c : Nat, c < r → b (c : Int) = false) : (upto n).find? b = some (r : Int) := by
  obtain ⟨t, ht⟩ := upto_prefix (i := r + 1) (n := n) (by omega)
  rw [← ht, upto_succ, List.append_assoc, List.find?_append, List.find?_eq_none.2 (fun y hy => ?_)]
  · simp [hr]
  · unfold upto at hy
    obtain ⟨c, hc, rfl⟩ := List.mem_map.1 hy
    rw [hmin c (List.mem_range.1 hc)]; decide
open Classical in
/-- both Primitives answer the least primitive element -/
theorem primitive_both (h : Is G P M mod) : ∃ r : Nat, 1 ≤ r ∧ r ≤ G.q - 1 ∧ Cw.IsOrd (G.el (r : Int)) (G.q - 1) ∧ dlog_Primitive.f G = some (r : Int) ∧ Ev (fun k => codewrightref08_Primitive.f k P M mod) (r : Int) := by
  obtain ⟨r, h1, h2, h3, h4⟩ := prim_least G
  have hq2 := G.q_ge
  have hall : ∀ x : Int, ∃ b, Ev (fun k => dlog_IsPrimitive.f k G x) b := fun x => ⟨_, isPrimitive_ev G x⟩
  refine ⟨r, h1, h2, of_decide_eq_true h3, ?_, prim08_loop h r h2 h3 h4 (r - 1) 1 (by omega)⟩
  unfold dlog_Primitive.f
  rw [dif_pos hall]
  have hb : (fun x => Classical.choose (hall x)) = prB G := funext (fun x => by
    have h5 := Ev.uniq (Classical.choose_spec (hall x)) (isPrimitive_ev G x)
    rw [h5]
    unfold prB
    congr)
  rw [hb, find_upto (prB G) r G.q (by omega) h3 h4]
  rfl
end Go.Proofs.Ytbohbfggmnjpdaa.Pl
end
-- PureLP
section
namespace Go.Proofs.Ytbohbfggmnjpdaa
open Go.RowKit Go.Proofs.Ytbohbfggmnjpdaa.P Go.Proofs.Ytbohbfggmnjpdaa.Hand Go.Proofs.YtbohbfggmnjpdaaW.PrintWords Pl
theorem Pure.DlogPrimitive (P M : Int) (l : List Int) (X : Int) (wP : (Lit.int .i64 P).wf = true) (wM : (Lit.int .i64 M).wf = true) (hl : l.length ≤ maxLen) (wl : ∀ x ∈ l, (Lit.int .i64 x).wf = true) (wX : (Lit.int .i64 X).wf = true) :
    ∃ k, codewrightlaw08_DlogPrimitive.f k P M l X = some true := by
  classical
  refine Ev.rounds (g := fun k => codewrightlaw08_DlogPrimitive.f k P M l X) ?_
  rcases open_cases P M l (wf_lt wP) with ho | ⟨G, hG, ho⟩
  · refine Ev.bind (Ev.congr (fun _ => ho) (Ev.now _)) ?_
    dsimp only [optE]
    exact Ev.congr (fun k => if_pos rfl) (Ev.now _)
  · refine Ev.bind (Ev.congr (fun _ => ho) (Ev.now _)) ?_
    dsimp only [optE]
    refine Ev.congr (fun k => if_neg Bool.false_ne_true) ?_
    obtain ⟨r, h1, h2, h3, h4, h5⟩ := primitive_both hG
    have hp := isPrimitive_ev G (r : Int)
    rw [decide_eq_true h3] at hp
    refine Ev.bind (Ev.congr (fun _ => h4) (Ev.now _)) ?_
    refine Ev.bind h5 ?_
    refine Ev.congr (fun k => if_pos rfl) ?_
    refine Ev.bind hp ?_
    refine Ev.step (fun k => by simp only [codewrightlaw08_DlogPrimitive.j0]; rfl) ?_
    refine Ev.congr (fun k => if_neg Bool.false_ne_true) ?_
    refine Ev.bind (isPrimitive_ev G X) ?_
    refine Ev.bind (is_isPrimitive hG X) ?_
    refine Ev.congr (fun k => ?_) (Ev.now _)
    congr 1
    unfold prB
    exact beq_iff_eq.2 (by congr)
end Go.Proofs.Ytbohbfggmnjpdaa
end
