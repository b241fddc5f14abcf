/- What towerHilbert_holds needs: texts Gs1, GmL, GmA, GmField, Pa5, Pa6, Pa7, put together. -/
import Derived.Test.YtoambdpchjeklaaKTH6
set_option linter.unusedVariables false
set_option linter.unusedSimpArgs false
-- Gs1
section
namespace Go.Proofs.Ytoambdpchjeklaa.GS
noncomputable section
open Go.RowKit Go.Proofs.Ytoambdpchjeklaa.Hand Go.Proofs.YtoambdpchjeklaaW.PrintWords Go.Proofs.YtoambdpchjeklaaW.PrintLast Go.Proofs.YtoambdpchjeklaaW.PrintMore
set_option linter.unusedVariables false
set_option linter.unusedSimpArgs false
def IsS68 (w0 W : World) (g : Nat) (f0 : Int) (f1 : Int) (f2 : List Int) (f3 : Int) (f4 : List Int) (f5 : List Int) : Prop := ∃ A2 c2, ∃ A4 c4, ∃ A5 c5, W.heap[g]? = some (.cells #[.int .i64 f0, .int .i64 f1, .slice A2 f2.length c2, .int .i64 f3, .slice A4 f4.length c4, .slice A5 f5.length c5] 68 (0, 0)) ∧ True ∧ Kd.C (Kd.int .i64) w0 A2 f2.length f2 ∧ Kd.C (Kd.int .i64) w0 A4 f4.length f4 ∧ Kd.C (Kd.int .i64) w0 A5 f5.length f5
theorem IsS68.drewN {w0 W : World} {g : Nat} {f0 : Int} {f1 : Int} {f2 : List Int} {f3 : Int} {f4 : List Int} {f5 : List Int} (h : IsS68 w0 W g f0 f1 f2 f3 f4 f5) (m : Nat) : IsS68 w0 (W.drewN m) g f0 f1 f2 f3 f4 f5 := h
theorem cellS68_0 {W : World} {g : Nat} {A2 : Option Addr} {c2 : Nat} {A4 : Option Addr} {c4 : Nat} {A5 : Option Addr} {c5 : Nat} {f0 : Int} {f1 : Int} {f2 : List Int} {f3 : Int} {f4 : List Int} {f5 : List Int} (h : W.heap[g]? = some (.cells #[.int .i64 f0, .int .i64 f1, .slice A2 f2.length c2, .int .i64 f3, .slice A4 f4.length c4, .slice A5 f5.length c5] 68 (0, 0))) : W.cell? ⟨g, 0, none⟩ = some (.int .i64 f0) := (kC h 0).trans rfl
theorem cellS68_1 {W : World} {g : Nat} {A2 : Option Addr} {c2 : Nat} {A4 : Option Addr} {c4 : Nat} {A5 : Option Addr} {c5 : Nat} {f0 : Int} {f1 : Int} {f2 : List Int} {f3 : Int} {f4 : List Int} {f5 : List Int} (h : W.heap[g]? = some (.cells #[.int .i64 f0, .int .i64 f1, .slice A2 f2.length c2, .int .i64 f3, .slice A4 f4.length c4, .slice A5 f5.length c5] 68 (0, 0))) : W.cell? ⟨g, 1, none⟩ = some (.int .i64 f1) := (kC h 1).trans rfl
theorem cellS68_2 {W : World} {g : Nat} {A2 : Option Addr} {c2 : Nat} {A4 : Option Addr} {c4 : Nat} {A5 : Option Addr} {c5 : Nat} {f0 : Int} {f1 : Int} {f2 : List Int} {f3 : Int} {f4 : List Int} {f5 : List Int} (h : W.heap[g]? = some (.cells #[.int .i64 f0, .int .i64 f1, .slice A2 f2.length c2, .int .i64 f3, .slice A4 f4.length c4, .slice A5 f5.length c5] 68 (0, 0))) : W.cell? ⟨g, 2, none⟩ = some (.slice A2 f2.length c2) := (kC h 2).trans rfl
theorem cellS68_3 {W : World} {g : Nat} {A2 : Option Addr} {c2 : Nat} {A4 : Option Addr} {c4 : Nat} {A5 : Option Addr} {c5 : Nat} {f0 : Int} {f1 : Int} {f2 : List Int} {f3 : Int} {f4 : List Int} {f5 : List Int} (h : W.heap[g]? = some (.cells #[.int .i64 f0, .int .i64 f1, .slice A2 f2.length c2, .int .i64 f3, .slice A4 f4.length c4, .slice A5 f5.length c5] 68 (0, 0))) : W.cell? ⟨g, 3, none⟩ = some (.int .i64 f3) := (kC h 3).trans rfl
theorem cellS68_4 {W : World} {g : Nat} {A2 : Option Addr} {c2 : Nat} {A4 : Option Addr} {c4 : Nat} {A5 : Option Addr} {c5 : Nat} {f0 : Int} {f1 : Int} {f2 : List Int} {f3 : Int} {f4 : List Int} {f5 : List Int} (h : W.heap[g]? = some (.cells #[.int .i64 f0, .int .i64 f1, .slice A2 f2.length c2, .int .i64 f3, .slice A4 f4.length c4, .slice A5 f5.length c5] 68 (0, 0))) : W.cell? ⟨g, 4, none⟩ = some (.slice A4 f4.length c4) := (kC h 4).trans rfl
theorem cellS68_5 {W : World} {g : Nat} {A2 : Option Addr} {c2 : Nat} {A4 : Option Addr} {c4 : Nat} {A5 : Option Addr} {c5 : Nat} {f0 : Int} {f1 : Int} {f2 : List Int} {f3 : Int} {f4 : List Int} {f5 : List Int} (h : W.heap[g]? = some (.cells #[.int .i64 f0, .int .i64 f1, .slice A2 f2.length c2, .int .i64 f3, .slice A4 f4.length c4, .slice A5 f5.length c5] 68 (0, 0))) : W.cell? ⟨g, 5, none⟩ = some (.slice A5 f5.length c5) := (kC h 5).trans rfl
def field_GF_Is.f (s0_0 : Int) (s0_1 : Int) (s0_2 : List Int) (s0_3 : Int) (s0_4 : List Int) (s0_5 : List Int) (a1 : Int) : Option (Bool × Int × Int × Int) := if a1 ≥ 0 then (some (decide (a1 < s0_3), s0_0, s0_1, s0_3)) else (some (false, s0_0, s0_1, s0_3))
set_option maxHeartbeats 8000000 in
set_option maxRecDepth 100000 in
theorem field_GF_Is.calls (g : Nat) (s0_0 : Int) (s0_1 : Int) (s0_2 : List Int) (s0_3 : Int) (s0_4 : List Int) (s0_5 : List Int) (a1 : Int) (r1 : Bool) (r2 : Int) (r3 : Int) (r4 : Int) (w0 w : World) (hI : IsS68 w0 w g s0_0 s0_1 s0_2 s0_3 s0_4 s0_5) (hB : Below w0.heap.size w0 w) (h : field_GF_Is.f s0_0 s0_1 s0_2 s0_3 s0_4 s0_5 a1 = some (r1, r2, r3, r4)) :
  Calls Try.prog 63 #[.pointer (some ⟨g, 0, none⟩), .int .i64 a1] w fun e w' => e = .returned (.bool r1) ∧ IsS68 w0 w' g r2 r3 s0_2 r4 s0_4 s0_5 ∧ Below w0.heap.size w0 w' ∧ KeepBut w w' g none := by
 have HI0 := Aside0.mk hI
 have HK := Aside0.mk (KeepBut.refl w g none)
 have HL := Aside0.mk hB.size
 clear hI
 have HW0 := Aside0.mk hB.size
 have HB := Aside0.mk hB
 clear hB
 have H : (if a1 ≥ 0 then (some (decide (a1 < s0_3), s0_0, s0_1, s0_3)) else (some (false, s0_0, s0_1, s0_3))) = some (r1, r2, r3, r4) := h
 clear h
 by_cases c3 : a1 ≥ 0
 ·rw [if_pos c3] at H
  have c3b0 : decide (0 ≤ a1) = true := decide_eq_true c3
  clear c3
  simp only [Option.some.injEq, Prod.mk.injEq] at H
  obtain ⟨rfl, rfl, rfl, rfl⟩ := H
  obtain ⟨ASz4_2, cSz4_2, ASz4_4, cSz4_4, ASz4_5, cSz4_5, HGz4, hgz4, HSz4_2, HSz4_4, HSz4_5⟩ := HI0.out
  have hcz4_0 := cellS68_0 HGz4
  have hcz4_1 := cellS68_1 HGz4
  have hcz4_2 := cellS68_2 HGz4
  have hcz4_3 := cellS68_3 HGz4
  have hcz4_4 := cellS68_4 HGz4
  have hcz4_5 := cellS68_5 HGz4
  have hfz4_0 := kF HGz4 0
  have hfz4_1 := kF HGz4 1
  have hfz4_3 := kF HGz4 3
  clear HGz4 hgz4
  go_enter Try.func63, Try.ntmps63
  go_wp2
  go_ret
  exact ⟨by first | rfl | (simp [eN, eS] <;> rfl) | (simp [*, eN, eS] <;> rfl), by repeat (first | (with_reducible first | exact HI0.out | apply IsS68.alloc | apply IsS68.drewN | apply IsS68.drew | apply IsS68.set_0 | apply IsS68.set_1 | apply IsS68.set_3) | exact HI0.out), by repeat (first | (with_reducible first | exact HB.out | apply bA | apply bN | apply bD | refine bS ?_ (IsS68.ge HI0.out)) | exact HB.out), by repeat (first | (with_reducible first | exact HK.out | apply KeepBut.set_ | apply keep_drewN | apply keep_drew | apply keep_alloc) | exact HK.out)⟩
 ·rw [if_neg c3] at H
  have c3b0 : decide (0 ≤ a1) = false := decide_eq_false c3
  clear c3
  simp only [Option.some.injEq, Prod.mk.injEq] at H
  obtain ⟨rfl, rfl, rfl, rfl⟩ := H
  go_enter Try.func63, Try.ntmps63
  go_wp2
  go_ret
  exact ⟨by first | rfl | (simp [eN, eS] <;> rfl) | (simp [*, eN, eS] <;> rfl), by repeat (first | (with_reducible first | exact HI0.out | apply IsS68.alloc | apply IsS68.drewN | apply IsS68.drew | apply IsS68.set_0 | apply IsS68.set_1 | apply IsS68.set_3) | exact HI0.out), by repeat (first | (with_reducible first | exact HB.out | apply bA | apply bN | apply bD | refine bS ?_ (IsS68.ge HI0.out)) | exact HB.out), by repeat (first | (with_reducible first | exact HK.out | apply KeepBut.set_ | apply keep_drewN | apply keep_drew | apply keep_alloc) | exact HK.out)⟩
def field_GF_in.f (s0_0 : Int) (s0_1 : Int) (s0_2 : List Int) (s0_3 : Int) (s0_4 : List Int) (s0_5 : List Int) (a1 : Int) : Option (Int × Int × Int × Int) := (field_GF_Is.f s0_0 s0_1 s0_2 s0_3 s0_4 s0_5 a1).bind fun bt101 => (if bt101.1 = true then (some (a1, bt101.2.1, bt101.2.2.1, bt101.2.2.2)) else (some (0, bt101.2.1, bt101.2.2.1, bt101.2.2.2)))
set_option maxHeartbeats 8000000 in
set_option maxRecDepth 100000 in
theorem field_GF_in.calls (g : Nat) (s0_0 : Int) (s0_1 : Int) (s0_2 : List Int) (s0_3 : Int) (s0_4 : List Int) (s0_5 : List Int) (a1 : Int) (r1 : Int) (r2 : Int) (r3 : Int) (r4 : Int) (w0 w : World) (hI : IsS68 w0 w g s0_0 s0_1 s0_2 s0_3 s0_4 s0_5) (hB : Below w0.heap.size w0 w) (h : field_GF_in.f s0_0 s0_1 s0_2 s0_3 s0_4 s0_5 a1 = some (r1, r2, r3, r4)) :
  Calls Try.prog 56 #[.pointer (some ⟨g, 0, none⟩), .int .i64 a1] w fun e w' => e = .returned (.int .i64 r1) ∧ IsS68 w0 w' g r2 r3 s0_2 r4 s0_4 s0_5 ∧ Below w0.heap.size w0 w' ∧ KeepBut w w' g none := by
 have HI0 := Aside0.mk hI
 have HK := Aside0.mk (KeepBut.refl w g none)
 have HL := Aside0.mk hB.size
 clear hI
 have HW0 := Aside0.mk hB.size
 have HB := Aside0.mk hB
 clear hB
 have H : ((field_GF_Is.f s0_0 s0_1 s0_2 s0_3 s0_4 s0_5 a1).bind fun bt101 => (if bt101.1 = true then (some (a1, bt101.2.1, bt101.2.2.1, bt101.2.2.2)) else (some (0, bt101.2.1, bt101.2.2.1, bt101.2.2.2)))) = some (r1, r2, r3, r4) := h
 clear h
 replace H := Option.bind_eq_some_iff.mp H
 obtain ⟨⟨t101, t102, t103, t104⟩, A30, H⟩ := H
 replace H : (if t101 = true then (some (a1, t102, t103, t104)) else (some (0, t102, t103, t104))) = some (r1, r2, r3, r4) := H
 have A3 := Aside0.mk A30
 clear A30
 by_cases c4 : t101 = true
 ·subst c4
  have H1 : (some (a1, t102, t103, t104)) = some (r1, r2, r3, r4) := by rw [if_pos rfl] at H; exact H
  clear H
  have H := H1
  clear H1
  simp only [Option.some.injEq, Prod.mk.injEq] at H
  obtain ⟨rfl, rfl, rfl, rfl⟩ := H
  go_enter Try.func56, Try.ntmps56
  go_wp2_with (first | ((with_reducible refine gate_callee (f := 63) rfl ?_); refine goesL_ (some 7) rfl rfl Try.func63 (by kernel_rfl) rfl #[.pointer (some ⟨g, 0, none⟩), .int .i64 a1] rfl (by (try simp only [List.map_toArray, List.map_cons, List.map_nil]); first | done | rfl | (simp only [List.length_drop, List.length_take]; rfl)) ?_; (with_reducible refine (field_GF_Is.calls g s0_0 s0_1 s0_2 s0_3 s0_4 s0_5 a1 true t102 t103 t104 w0 _ ?side1 ?side2 A3.out).mono ?_); (case side1 => repeat (first | (with_reducible first | exact HI0.out | apply IsS68.alloc | apply IsS68.drewN | apply IsS68.drew | apply IsS68.set_0 | apply IsS68.set_1 | apply IsS68.set_3) | exact HI0.out)); (case side2 => repeat (first | (with_reducible first | exact HB.out | apply bA | apply bN | apply bD | refine bS ?_ (IsS68.ge HI0.out)) | exact HB.out)); rintro e w5 ⟨rfl, hi, hb, hk⟩; refine ⟨_, rfl, ?_⟩; have n0_ := Aside0.mk (KeepBut.trans (by repeat (first | (with_reducible first | exact HK.out | apply KeepBut.set_ | apply keep_drewN | apply keep_drew | apply keep_alloc) | exact HK.out)) hk (.inl rfl)); have n1_ := Aside0.mk (hb); have n2_ := Aside0.mk (hi); clear HK; clear HB; clear HI0; have HK := n0_; have HB := n1_; have HI0 := n2_; clear n0_ n1_ n2_; (try clear hb); (try clear hb2); (try clear hk); (try clear hi)))
  go_ret
  exact ⟨by first | rfl | (simp [eN, eS] <;> rfl) | (simp [*, eN, eS] <;> rfl), by repeat (first | (with_reducible first | exact HI0.out | apply IsS68.alloc | apply IsS68.drewN | apply IsS68.drew | apply IsS68.set_0 | apply IsS68.set_1 | apply IsS68.set_3) | exact HI0.out), by repeat (first | (with_reducible first | exact HB.out | apply bA | apply bN | apply bD | refine bS ?_ (IsS68.ge HI0.out)) | exact HB.out), by repeat (first | (with_reducible first | exact HK.out | apply KeepBut.set_ | apply keep_drewN | apply keep_drew | apply keep_alloc) | exact HK.out)⟩
 ·replace c4 := Bool.eq_false_iff.mpr c4
  subst c4
  have H1 : (some (0, t102, t103, t104)) = some (r1, r2, r3, r4) := by rw [if_neg (show ¬ (false = true) by decide)] at H; exact H
  clear H
  have H := H1
  clear H1
  simp only [Option.some.injEq, Prod.mk.injEq] at H
  obtain ⟨rfl, rfl, rfl, rfl⟩ := H
  go_enter Try.func56, Try.ntmps56
  go_wp2_with (first | ((with_reducible refine gate_callee (f := 63) rfl ?_); refine goesL_ (some 7) rfl rfl Try.func63 (by kernel_rfl) rfl #[.pointer (some ⟨g, 0, none⟩), .int .i64 a1] rfl (by (try simp only [List.map_toArray, List.map_cons, List.map_nil]); first | done | rfl | (simp only [List.length_drop, List.length_take]; rfl)) ?_; (with_reducible refine (field_GF_Is.calls g s0_0 s0_1 s0_2 s0_3 s0_4 s0_5 a1 false t102 t103 t104 w0 _ ?side1 ?side2 A3.out).mono ?_); (case side1 => repeat (first | (with_reducible first | exact HI0.out | apply IsS68.alloc | apply IsS68.drewN | apply IsS68.drew | apply IsS68.set_0 | apply IsS68.set_1 | apply IsS68.set_3) | exact HI0.out)); (case side2 => repeat (first | (with_reducible first | exact HB.out | apply bA | apply bN | apply bD | refine bS ?_ (IsS68.ge HI0.out)) | exact HB.out)); rintro e w6 ⟨rfl, hi, hb, hk⟩; refine ⟨_, rfl, ?_⟩; have n0_ := Aside0.mk (KeepBut.trans (by repeat (first | (with_reducible first | exact HK.out | apply KeepBut.set_ | apply keep_drewN | apply keep_drew | apply keep_alloc) | exact HK.out)) hk (.inl rfl)); have n1_ := Aside0.mk (hb); have n2_ := Aside0.mk (hi); clear HK; clear HB; clear HI0; have HK := n0_; have HB := n1_; have HI0 := n2_; clear n0_ n1_ n2_; (try clear hb); (try clear hb2); (try clear hk); (try clear hi)))
  go_ret
  exact ⟨by first | rfl | (simp [eN, eS] <;> rfl) | (simp [*, eN, eS] <;> rfl), by repeat (first | (with_reducible first | exact HI0.out | apply IsS68.alloc | apply IsS68.drewN | apply IsS68.drew | apply IsS68.set_0 | apply IsS68.set_1 | apply IsS68.set_3) | exact HI0.out), by repeat (first | (with_reducible first | exact HB.out | apply bA | apply bN | apply bD | refine bS ?_ (IsS68.ge HI0.out)) | exact HB.out), by repeat (first | (with_reducible first | exact HK.out | apply KeepBut.set_ | apply keep_drewN | apply keep_drew | apply keep_alloc) | exact HK.out)⟩
def field_GF_Add.l0 : Nat → Int → Int → Int → Int → Int → Int → List Int → Int → List Int → List Int → Option (Int × Int × Int × Int)
 | 0, _, _, _, _, _, _, _, _, _, _ => none
 | k + 1, x1, x2, x7, x8, x1000, x1001, x1002, x1003, x1004, x1005 => if x1 > 0 then (if x1000 = 0 then (none) else (field_GF_Add.l0 k (wrap64 (Int.tdiv x1 x1000)) (wrap64 (Int.tdiv x2 x1000)) (wrap64 (x7 + (wrap64 ((Int.tmod (wrap64 ((Int.tmod x1 x1000) + (Int.tmod x2 x1000))) x1000) * x8)))) (wrap64 (x8 * x1000)) x1000 x1001 x1002 x1003 x1004 x1005)) else (if x2 > 0 then (if x1000 = 0 then (none) else (field_GF_Add.l0 k (wrap64 (Int.tdiv x1 x1000)) (wrap64 (Int.tdiv x2 x1000)) (wrap64 (x7 + (wrap64 ((Int.tmod (wrap64 ((Int.tmod x1 x1000) + (Int.tmod x2 x1000))) x1000) * x8)))) (wrap64 (x8 * x1000)) x1000 x1001 x1002 x1003 x1004 x1005)) else (some (x7, x1000, x1001, x1003)))
def field_GF_Add.f (k : Nat) (s0_0 : Int) (s0_1 : Int) (s0_2 : List Int) (s0_3 : Int) (s0_4 : List Int) (s0_5 : List Int) (a1 : Int) (a2 : Int) : Option (Int × Int × Int × Int) := (field_GF_in.f s0_0 s0_1 s0_2 s0_3 s0_4 s0_5 a1).bind fun bt105 => ((field_GF_in.f bt105.2.1 bt105.2.2.1 s0_2 bt105.2.2.2 s0_4 s0_5 a2).bind fun bt109 => (if bt109.2.1 = 2 then (some (Go.bits .xor .i64 bt105.1 bt109.1, bt109.2.1, bt109.2.2.1, bt109.2.2.2)) else (field_GF_Add.l0 k bt105.1 bt109.1 0 1 bt109.2.1 bt109.2.2.1 s0_2 bt109.2.2.2 s0_4 s0_5)))
set_option maxHeartbeats 8000000 in
set_option maxRecDepth 100000 in
theorem field_GF_Add.calls (k : Nat) (g : Nat) (s0_0 : Int) (s0_1 : Int) (s0_2 : List Int) (s0_3 : Int) (s0_4 : List Int) (s0_5 : List Int) (a1 : Int) (a2 : Int) (r1 : Int) (r2 : Int) (r3 : Int) (r4 : Int) (w0 w : World) (hI : IsS68 w0 w g s0_0 s0_1 s0_2 s0_3 s0_4 s0_5) (hB : Below w0.heap.size w0 w) (h : field_GF_Add.f k s0_0 s0_1 s0_2 s0_3 s0_4 s0_5 a1 a2 = some (r1, r2, r3, r4)) :
  Calls Try.prog 41 #[.pointer (some ⟨g, 0, none⟩), .int .i64 a1, .int .i64 a2] w fun e w' => e = .returned (.int .i64 r1) ∧ IsS68 w0 w' g r2 r3 s0_2 r4 s0_4 s0_5 ∧ Below w0.heap.size w0 w' ∧ KeepBut w w' g none := by
 have HI0 := Aside0.mk hI
 have HK := Aside0.mk (KeepBut.refl w g none)
 have HL := Aside0.mk hB.size
 clear hI
 have HW0 := Aside0.mk hB.size
 have HB := Aside0.mk hB
 clear hB
 have H : ((field_GF_in.f s0_0 s0_1 s0_2 s0_3 s0_4 s0_5 a1).bind fun bt105 => ((field_GF_in.f bt105.2.1 bt105.2.2.1 s0_2 bt105.2.2.2 s0_4 s0_5 a2).bind fun bt109 => (if bt109.2.1 = 2 then (some (Go.bits .xor .i64 bt105.1 bt109.1, bt109.2.1, bt109.2.2.1, bt109.2.2.2)) else (field_GF_Add.l0 k bt105.1 bt109.1 0 1 bt109.2.1 bt109.2.2.1 s0_2 bt109.2.2.2 s0_4 s0_5)))) = some (r1, r2, r3, r4) := h
 clear h
 replace H := Option.bind_eq_some_iff.mp H
 obtain ⟨⟨t105, t106, t107, t108⟩, A40, H⟩ := H
 replace H : ((field_GF_in.f t106 t107 s0_2 t108 s0_4 s0_5 a2).bind fun bt109 => (if bt109.2.1 = 2 then (some (Go.bits .xor .i64 t105 bt109.1, bt109.2.1, bt109.2.2.1, bt109.2.2.2)) else (field_GF_Add.l0 k t105 bt109.1 0 1 bt109.2.1 bt109.2.2.1 s0_2 bt109.2.2.2 s0_4 s0_5))) = some (r1, r2, r3, r4) := H
 have A4 := Aside0.mk A40
 clear A40
 replace H := Option.bind_eq_some_iff.mp H
 obtain ⟨⟨t109, t110, t111, t112⟩, A50, H⟩ := H
 replace H : (if t110 = 2 then (some (Go.bits .xor .i64 t105 t109, t110, t111, t112)) else (field_GF_Add.l0 k t105 t109 0 1 t110 t111 s0_2 t112 s0_4 s0_5)) = some (r1, r2, r3, r4) := H
 have A5 := Aside0.mk A50
 clear A50
 by_cases c6 : t110 = 2
 ·rw [if_pos c6] at H
  have c6b0 : (t110 == 2) = true := beq_iff_eq.mpr c6
  have c6b1 : (t110 != 2) = false := bne_eq_false_iff_eq.mpr c6
  clear c6
  simp only [Option.some.injEq, Prod.mk.injEq] at H
  obtain ⟨rfl, rfl, rfl, rfl⟩ := H
  go_enter Try.func41, Try.ntmps41
  go_wp2_with (first | (go_at_call 56; (with_reducible refine (field_GF_in.calls g s0_0 s0_1 s0_2 s0_3 s0_4 s0_5 a1 t105 t106 t107 t108 w0 _ ?side1 ?side2 A4.out).mono ?_); (case side1 => repeat (first | (with_reducible first | exact HI0.out | apply IsS68.alloc | apply IsS68.drewN | apply IsS68.drew | apply IsS68.set_0 | apply IsS68.set_1 | apply IsS68.set_3) | exact HI0.out)); (case side2 => repeat (first | (with_reducible first | exact HB.out | apply bA | apply bN | apply bD | refine bS ?_ (IsS68.ge HI0.out)) | exact HB.out)); rintro e w7 ⟨rfl, hi, hb, hk⟩; have n0_ := Aside0.mk (KeepBut.trans (by repeat (first | (with_reducible first | exact HK.out | apply KeepBut.set_ | apply keep_drewN | apply keep_drew | apply keep_alloc) | exact HK.out)) hk (.inl rfl)); have n1_ := Aside0.mk (hb); have n2_ := Aside0.mk (hi); clear HK; clear HB; clear HI0; have HK := n0_; have HB := n1_; have HI0 := n2_; clear n0_ n1_ n2_; (try clear hb); (try clear hb2); (try clear hk); (try clear hi)) | (go_at_call 56; (with_reducible refine (field_GF_in.calls g t106 t107 s0_2 t108 s0_4 s0_5 a2 t109 t110 t111 t112 w0 _ ?side1 ?side2 A5.out).mono ?_); (case side1 => repeat (first | (with_reducible first | exact HI0.out | apply IsS68.alloc | apply IsS68.drewN | apply IsS68.drew | apply IsS68.set_0 | apply IsS68.set_1 | apply IsS68.set_3) | exact HI0.out)); (case side2 => repeat (first | (with_reducible first | exact HB.out | apply bA | apply bN | apply bD | refine bS ?_ (IsS68.ge HI0.out)) | exact HB.out)); rintro e w8 ⟨rfl, hi, hb, hk⟩; have n0_ := Aside0.mk (KeepBut.trans (by repeat (first | (with_reducible first | exact HK.out | apply KeepBut.set_ | apply keep_drewN | apply keep_drew | apply keep_alloc) | exact HK.out)) hk (.inl rfl)); have n1_ := Aside0.mk (hb); have n2_ := Aside0.mk (hi); clear HK; clear HB; clear HI0; have HK := n0_; have HB := n1_; have HI0 := n2_; clear n0_ n1_ n2_; (try clear hb); (try clear hb2); (try clear hk); (try clear hi); obtain ⟨ASz9_2, cSz9_2, ASz9_4, cSz9_4, ASz9_5, cSz9_5, HGz9, hgz9, HSz9_2, HSz9_4, HSz9_5⟩ := HI0.out; have hcz9_0 := cellS68_0 HGz9; have hcz9_1 := cellS68_1 HGz9; have hcz9_2 := cellS68_2 HGz9; have hcz9_3 := cellS68_3 HGz9; have hcz9_4 := cellS68_4 HGz9; have hcz9_5 := cellS68_5 HGz9; have hfz9_0 := kF HGz9 0; have hfz9_1 := kF HGz9 1; have hfz9_3 := kF HGz9 3; clear HGz9 hgz9))
  repeat (go_quiet (first | (go_at_call 56; (with_reducible refine (field_GF_in.calls g s0_0 s0_1 s0_2 s0_3 s0_4 s0_5 a1 t105 t106 t107 t108 w0 _ ?side1 ?side2 A4.out).mono ?_); (case side1 => repeat (first | (with_reducible first | exact HI0.out | apply IsS68.alloc | apply IsS68.drewN | apply IsS68.drew | apply IsS68.set_0 | apply IsS68.set_1 | apply IsS68.set_3) | exact HI0.out)); (case side2 => repeat (first | (with_reducible first | exact HB.out | apply bA | apply bN | apply bD | refine bS ?_ (IsS68.ge HI0.out)) | exact HB.out)); rintro e w7 ⟨rfl, hi, hb, hk⟩; have n0_ := Aside0.mk (KeepBut.trans (by repeat (first | (with_reducible first | exact HK.out | apply KeepBut.set_ | apply keep_drewN | apply keep_drew | apply keep_alloc) | exact HK.out)) hk (.inl rfl)); have n1_ := Aside0.mk (hb); have n2_ := Aside0.mk (hi); clear HK; clear HB; clear HI0; have HK := n0_; have HB := n1_; have HI0 := n2_; clear n0_ n1_ n2_; (try clear hb); (try clear hb2); (try clear hk); (try clear hi)) | (go_at_call 56; (with_reducible refine (field_GF_in.calls g t106 t107 s0_2 t108 s0_4 s0_5 a2 t109 t110 t111 t112 w0 _ ?side1 ?side2 A5.out).mono ?_); (case side1 => repeat (first | (with_reducible first | exact HI0.out | apply IsS68.alloc | apply IsS68.drewN | apply IsS68.drew | apply IsS68.set_0 | apply IsS68.set_1 | apply IsS68.set_3) | exact HI0.out)); (case side2 => repeat (first | (with_reducible first | exact HB.out | apply bA | apply bN | apply bD | refine bS ?_ (IsS68.ge HI0.out)) | exact HB.out)); rintro e w8 ⟨rfl, hi, hb, hk⟩; have n0_ := Aside0.mk (KeepBut.trans (by repeat (first | (with_reducible first | exact HK.out | apply KeepBut.set_ | apply keep_drewN | apply keep_drew | apply keep_alloc) | exact HK.out)) hk (.inl rfl)); have n1_ := Aside0.mk (hb); have n2_ := Aside0.mk (hi); clear HK; clear HB; clear HI0; have HK := n0_; have HB := n1_; have HI0 := n2_; clear n0_ n1_ n2_; (try clear hb); (try clear hb2); (try clear hk); (try clear hi); obtain ⟨ASz9_2, cSz9_2, ASz9_4, cSz9_4, ASz9_5, cSz9_5, HGz9, hgz9, HSz9_2, HSz9_4, HSz9_5⟩ := HI0.out; have hcz9_0 := cellS68_0 HGz9; have hcz9_1 := cellS68_1 HGz9; have hcz9_2 := cellS68_2 HGz9; have hcz9_3 := cellS68_3 HGz9; have hcz9_4 := cellS68_4 HGz9; have hcz9_5 := cellS68_5 HGz9; have hfz9_0 := kF HGz9 0; have hfz9_1 := kF HGz9 1; have hfz9_3 := kF HGz9 3; clear HGz9 hgz9)); try go_wp2_with (first | (go_at_call 56; (with_reducible refine (field_GF_in.calls g s0_0 s0_1 s0_2 s0_3 s0_4 s0_5 a1 t105 t106 t107 t108 w0 _ ?side1 ?side2 A4.out).mono ?_); (case side1 => repeat (first | (with_reducible first | exact HI0.out | apply IsS68.alloc | apply IsS68.drewN | apply IsS68.drew | apply IsS68.set_0 | apply IsS68.set_1 | apply IsS68.set_3) | exact HI0.out)); (case side2 => repeat (first | (with_reducible first | exact HB.out | apply bA | apply bN | apply bD | refine bS ?_ (IsS68.ge HI0.out)) | exact HB.out)); rintro e w7 ⟨rfl, hi, hb, hk⟩; have n0_ := Aside0.mk (KeepBut.trans (by repeat (first | (with_reducible first | exact HK.out | apply KeepBut.set_ | apply keep_drewN | apply keep_drew | apply keep_alloc) | exact HK.out)) hk (.inl rfl)); have n1_ := Aside0.mk (hb); have n2_ := Aside0.mk (hi); clear HK; clear HB; clear HI0; have HK := n0_; have HB := n1_; have HI0 := n2_; clear n0_ n1_ n2_; (try clear hb); (try clear hb2); (try clear hk); (try clear hi)) | (go_at_call 56; (with_reducible refine (field_GF_in.calls g t106 t107 s0_2 t108 s0_4 s0_5 a2 t109 t110 t111 t112 w0 _ ?side1 ?side2 A5.out).mono ?_); (case side1 => repeat (first | (with_reducible first | exact HI0.out | apply IsS68.alloc | apply IsS68.drewN | apply IsS68.drew | apply IsS68.set_0 | apply IsS68.set_1 | apply IsS68.set_3) | exact HI0.out)); (case side2 => repeat (first | (with_reducible first | exact HB.out | apply bA | apply bN | apply bD | refine bS ?_ (IsS68.ge HI0.out)) | exact HB.out)); rintro e w8 ⟨rfl, hi, hb, hk⟩; have n0_ := Aside0.mk (KeepBut.trans (by repeat (first | (with_reducible first | exact HK.out | apply KeepBut.set_ | apply keep_drewN | apply keep_drew | apply keep_alloc) | exact HK.out)) hk (.inl rfl)); have n1_ := Aside0.mk (hb); have n2_ := Aside0.mk (hi); clear HK; clear HB; clear HI0; have HK := n0_; have HB := n1_; have HI0 := n2_; clear n0_ n1_ n2_; (try clear hb); (try clear hb2); (try clear hk); (try clear hi); obtain ⟨ASz9_2, cSz9_2, ASz9_4, cSz9_4, ASz9_5, cSz9_5, HGz9, hgz9, HSz9_2, HSz9_4, HSz9_5⟩ := HI0.out; have hcz9_0 := cellS68_0 HGz9; have hcz9_1 := cellS68_1 HGz9; have hcz9_2 := cellS68_2 HGz9; have hcz9_3 := cellS68_3 HGz9; have hcz9_4 := cellS68_4 HGz9; have hcz9_5 := cellS68_5 HGz9; have hfz9_0 := kF HGz9 0; have hfz9_1 := kF HGz9 1; have hfz9_3 := kF HGz9 3; clear HGz9 hgz9)))
  go_ret
  exact ⟨by first | rfl | (simp [eN, eS] <;> rfl) | (simp [*, eN, eS] <;> rfl), by repeat (first | (with_reducible first | exact HI0.out | apply IsS68.alloc | apply IsS68.drewN | apply IsS68.drew | apply IsS68.set_0 | apply IsS68.set_1 | apply IsS68.set_3) | exact HI0.out), by repeat (first | (with_reducible first | exact HB.out | apply bA | apply bN | apply bD | refine bS ?_ (IsS68.ge HI0.out)) | exact HB.out), by repeat (first | (with_reducible first | exact HK.out | apply KeepBut.set_ | apply keep_drewN | apply keep_drew | apply keep_alloc) | exact HK.out)⟩
 ·rw [if_neg c6] at H
  have c6b0 : (t110 == 2) = false := beq_eq_false_iff_ne.mpr c6
  have c6b1 : (t110 != 2) = true := bne_iff_ne.mpr c6
  have H' := Aside0.mk H
  clear H
  go_enter Try.func41, Try.ntmps41
  go_wp2_with (first | (go_at_call 56; (with_reducible refine (field_GF_in.calls g s0_0 s0_1 s0_2 s0_3 s0_4 s0_5 a1 t105 t106 t107 t108 w0 _ ?side1 ?side2 A4.out).mono ?_); (case side1 => repeat (first | (with_reducible first | exact HI0.out | apply IsS68.alloc | apply IsS68.drewN | apply IsS68.drew | apply IsS68.set_0 | apply IsS68.set_1 | apply IsS68.set_3) | exact HI0.out)); (case side2 => repeat (first | (with_reducible first | exact HB.out | apply bA | apply bN | apply bD | refine bS ?_ (IsS68.ge HI0.out)) | exact HB.out)); rintro e w10 ⟨rfl, hi, hb, hk⟩; have n0_ := Aside0.mk (KeepBut.trans (by repeat (first | (with_reducible first | exact HK.out | apply KeepBut.set_ | apply keep_drewN | apply keep_drew | apply keep_alloc) | exact HK.out)) hk (.inl rfl)); have n1_ := Aside0.mk (hb); have n2_ := Aside0.mk (hi); clear HK; clear HB; clear HI0; have HK := n0_; have HB := n1_; have HI0 := n2_; clear n0_ n1_ n2_; (try clear hb); (try clear hb2); (try clear hk); (try clear hi)) | (go_at_call 56; (with_reducible refine (field_GF_in.calls g t106 t107 s0_2 t108 s0_4 s0_5 a2 t109 t110 t111 t112 w0 _ ?side1 ?side2 A5.out).mono ?_); (case side1 => repeat (first | (with_reducible first | exact HI0.out | apply IsS68.alloc | apply IsS68.drewN | apply IsS68.drew | apply IsS68.set_0 | apply IsS68.set_1 | apply IsS68.set_3) | exact HI0.out)); (case side2 => repeat (first | (with_reducible first | exact HB.out | apply bA | apply bN | apply bD | refine bS ?_ (IsS68.ge HI0.out)) | exact HB.out)); rintro e w11 ⟨rfl, hi, hb, hk⟩; have n0_ := Aside0.mk (KeepBut.trans (by repeat (first | (with_reducible first | exact HK.out | apply KeepBut.set_ | apply keep_drewN | apply keep_drew | apply keep_alloc) | exact HK.out)) hk (.inl rfl)); have n1_ := Aside0.mk (hb); have n2_ := Aside0.mk (hi); clear HK; clear HB; clear HI0; have HK := n0_; have HB := n1_; have HI0 := n2_; clear n0_ n1_ n2_; (try clear hb); (try clear hb2); (try clear hk); (try clear hi); obtain ⟨ASz12_2, cSz12_2, ASz12_4, cSz12_4, ASz12_5, cSz12_5, HGz12, hgz12, HSz12_2, HSz12_4, HSz12_5⟩ := HI0.out; have hcz12_0 := cellS68_0 HGz12; have hcz12_1 := cellS68_1 HGz12; have hcz12_2 := cellS68_2 HGz12; have hcz12_3 := cellS68_3 HGz12; have hcz12_4 := cellS68_4 HGz12; have hcz12_5 := cellS68_5 HGz12; have hfz12_0 := kF HGz12 0; have hfz12_1 := kF HGz12 1; have hfz12_3 := kF HGz12 3; clear HGz12 hgz12))
  repeat (go_quiet (first | (go_at_call 56; (with_reducible refine (field_GF_in.calls g s0_0 s0_1 s0_2 s0_3 s0_4 s0_5 a1 t105 t106 t107 t108 w0 _ ?side1 ?side2 A4.out).mono ?_); (case side1 => repeat (first | (with_reducible first | exact HI0.out | apply IsS68.alloc | apply IsS68.drewN | apply IsS68.drew | apply IsS68.set_0 | apply IsS68.set_1 | apply IsS68.set_3) | exact HI0.out)); (case side2 => repeat (first | (with_reducible first | exact HB.out | apply bA | apply bN | apply bD | refine bS ?_ (IsS68.ge HI0.out)) | exact HB.out)); rintro e w10 ⟨rfl, hi, hb, hk⟩; have n0_ := Aside0.mk (KeepBut.trans (by repeat (first | (with_reducible first | exact HK.out | apply KeepBut.set_ | apply keep_drewN | apply keep_drew | apply keep_alloc) | exact HK.out)) hk (.inl rfl)); have n1_ := Aside0.mk (hb); have n2_ := Aside0.mk (hi); clear HK; clear HB; clear HI0; have HK := n0_; have HB := n1_; have HI0 := n2_; clear n0_ n1_ n2_; (try clear hb); (try clear hb2); (try clear hk); (try clear hi)) | (go_at_call 56; (with_reducible refine (field_GF_in.calls g t106 t107 s0_2 t108 s0_4 s0_5 a2 t109 t110 t111 t112 w0 _ ?side1 ?side2 A5.out).mono ?_); (case side1 => repeat (first | (with_reducible first | exact HI0.out | apply IsS68.alloc | apply IsS68.drewN | apply IsS68.drew | apply IsS68.set_0 | apply IsS68.set_1 | apply IsS68.set_3) | exact HI0.out)); (case side2 => repeat (first | (with_reducible first | exact HB.out | apply bA | apply bN | apply bD | refine bS ?_ (IsS68.ge HI0.out)) | exact HB.out)); rintro e w11 ⟨rfl, hi, hb, hk⟩; have n0_ := Aside0.mk (KeepBut.trans (by repeat (first | (with_reducible first | exact HK.out | apply KeepBut.set_ | apply keep_drewN | apply keep_drew | apply keep_alloc) | exact HK.out)) hk (.inl rfl)); have n1_ := Aside0.mk (hb); have n2_ := Aside0.mk (hi); clear HK; clear HB; clear HI0; have HK := n0_; have HB := n1_; have HI0 := n2_; clear n0_ n1_ n2_; (try clear hb); (try clear hb2); (try clear hk); (try clear hi); obtain ⟨ASz12_2, cSz12_2, ASz12_4, cSz12_4, ASz12_5, cSz12_5, HGz12, hgz12, HSz12_2, HSz12_4, HSz12_5⟩ := HI0.out; have hcz12_0 := cellS68_0 HGz12; have hcz12_1 := cellS68_1 HGz12; have hcz12_2 := cellS68_2 HGz12; have hcz12_3 := cellS68_3 HGz12; have hcz12_4 := cellS68_4 HGz12; have hcz12_5 := cellS68_5 HGz12; have hfz12_0 := kF HGz12 0; have hfz12_1 := kF HGz12 1; have hfz12_3 := kF HGz12 3; clear HGz12 hgz12)); try go_wp2_with (first | (go_at_call 56; (with_reducible refine (field_GF_in.calls g s0_0 s0_1 s0_2 s0_3 s0_4 s0_5 a1 t105 t106 t107 t108 w0 _ ?side1 ?side2 A4.out).mono ?_); (case side1 => repeat (first | (with_reducible first | exact HI0.out | apply IsS68.alloc | apply IsS68.drewN | apply IsS68.drew | apply IsS68.set_0 | apply IsS68.set_1 | apply IsS68.set_3) | exact HI0.out)); (case side2 => repeat (first | (with_reducible first | exact HB.out | apply bA | apply bN | apply bD | refine bS ?_ (IsS68.ge HI0.out)) | exact HB.out)); rintro e w10 ⟨rfl, hi, hb, hk⟩; have n0_ := Aside0.mk (KeepBut.trans (by repeat (first | (with_reducible first | exact HK.out | apply KeepBut.set_ | apply keep_drewN | apply keep_drew | apply keep_alloc) | exact HK.out)) hk (.inl rfl)); have n1_ := Aside0.mk (hb); have n2_ := Aside0.mk (hi); clear HK; clear HB; clear HI0; have HK := n0_; have HB := n1_; have HI0 := n2_; clear n0_ n1_ n2_; (try clear hb); (try clear hb2); (try clear hk); (try clear hi)) | (go_at_call 56; (with_reducible refine (field_GF_in.calls g t106 t107 s0_2 t108 s0_4 s0_5 a2 t109 t110 t111 t112 w0 _ ?side1 ?side2 A5.out).mono ?_); (case side1 => repeat (first | (with_reducible first | exact HI0.out | apply IsS68.alloc | apply IsS68.drewN | apply IsS68.drew | apply IsS68.set_0 | apply IsS68.set_1 | apply IsS68.set_3) | exact HI0.out)); (case side2 => repeat (first | (with_reducible first | exact HB.out | apply bA | apply bN | apply bD | refine bS ?_ (IsS68.ge HI0.out)) | exact HB.out)); rintro e w11 ⟨rfl, hi, hb, hk⟩; have n0_ := Aside0.mk (KeepBut.trans (by repeat (first | (with_reducible first | exact HK.out | apply KeepBut.set_ | apply keep_drewN | apply keep_drew | apply keep_alloc) | exact HK.out)) hk (.inl rfl)); have n1_ := Aside0.mk (hb); have n2_ := Aside0.mk (hi); clear HK; clear HB; clear HI0; have HK := n0_; have HB := n1_; have HI0 := n2_; clear n0_ n1_ n2_; (try clear hb); (try clear hb2); (try clear hk); (try clear hi); obtain ⟨ASz12_2, cSz12_2, ASz12_4, cSz12_4, ASz12_5, cSz12_5, HGz12, hgz12, HSz12_2, HSz12_4, HSz12_5⟩ := HI0.out; have hcz12_0 := cellS68_0 HGz12; have hcz12_1 := cellS68_1 HGz12; have hcz12_2 := cellS68_2 HGz12; have hcz12_3 := cellS68_3 HGz12; have hcz12_4 := cellS68_4 HGz12; have hcz12_5 := cellS68_5 HGz12; have hfz12_0 := kF HGz12 0; have hfz12_1 := kF HGz12 1; have hfz12_3 := kF HGz12 3; clear HGz12 hgz12)))
  go_loopg [1, 2, 7, 8] k (fun kq v1 v2 v7 v8 w' => ∃ (x1_1 : Int) (x2_1 : Int) (x7_1 : Int) (x8_1 : Int), v1 = .int .i64 x1_1 ∧ v2 = .int .i64 x2_1 ∧ v7 = .int .i64 x7_1 ∧ v8 = .int .i64 x8_1 ∧ Aside0 (field_GF_Add.l0 kq x1_1 x2_1 x7_1 x8_1 t110 t111 s0_2 t112 s0_4 s0_5 = some (r1, r2, r3, r4)) ∧ Aside0 (kq ≤ k) ∧ Aside0 (IsS68 w0 w' g t110 t111 s0_2 t112 s0_4 s0_5) ∧ Aside0 (KeepBut w w' g none) ∧ Aside0 (Below w0.heap.size w0 w'))
  case atStart => exact ⟨(t105), (t109), (0), (1), (by first | rfl | (simp; done) | (simp [*]; done)), (by first | rfl | (simp; done) | (simp [*]; done)), (by first | rfl | (simp; done) | (simp [*]; done)), (by first | rfl | (simp; done) | (simp [*]; done)), H', ⟨Nat.le_refl _⟩, ⟨by repeat (first | (with_reducible first | exact HI0.out | apply IsS68.alloc | apply IsS68.drewN | apply IsS68.drew | apply IsS68.set_0 | apply IsS68.set_1 | apply IsS68.set_3) | exact HI0.out)⟩, ⟨by repeat (first | (with_reducible first | exact HK.out | apply KeepBut.set_ | apply keep_drewN | apply keep_drew | apply keep_alloc) | exact HK.out)⟩, ⟨by repeat (first | (with_reducible first | exact HB.out | apply bA | apply bN | apply bD | refine bS ?_ (IsS68.ge HI0.out)) | exact HB.out)⟩⟩
  case round =>
   clear H'
   try clear p2
   try clear c4
   try clear c6
   try clear c6b0
   try clear c6b1
   try clear hcz12_0
   try clear hcz12_1
   try clear hcz12_2
   try clear hcz12_3
   try clear hcz12_4
   try clear hcz12_5
   try clear hcz9_0
   try clear hcz9_1
   try clear hcz9_2
   try clear hcz9_3
   try clear hcz9_4
   try clear hcz9_5
   try clear hfz12_0
   try clear hfz12_1
   try clear hfz12_3
   try clear hfz9_0
   try clear hfz9_1
   try clear hfz9_3
   obtain ⟨x1_1, x2_1, x7_1, x8_1, rfl, rfl, rfl, rfl, HA, HK1, HI0, HK, HB⟩ := hrel
   cases gk with
   | zero => exact absurd HA.out (by simp [field_GF_Add.l0])
   | succ k1 =>
    have H := HA.out
    clear HA
    simp only [field_GF_Add.l0] at H
    by_cases c13 : x1_1 > 0
    ·rw [if_pos c13] at H
     have c13b0 : decide (0 < x1_1) = true := decide_eq_true c13
     clear c13
     by_cases c14 : t110 = 0
     ·rw [if_pos c14] at H
      exact absurd H (by simp)
     ·rw [if_neg c14] at H
      have c14b0 : (t110 == 0) = false := beq_eq_false_iff_ne.mpr c14
      have c14b1 : (t110 != 0) = true := bne_iff_ne.mpr c14
      have H' := Aside0.mk H
      clear H
      obtain ⟨ASz15_2, cSz15_2, ASz15_4, cSz15_4, ASz15_5, cSz15_5, HGz15, hgz15, HSz15_2, HSz15_4, HSz15_5⟩ := HI0.out
      have hcz15_0 := cellS68_0 HGz15
      have hcz15_1 := cellS68_1 HGz15
      have hcz15_2 := cellS68_2 HGz15
      have hcz15_3 := cellS68_3 HGz15
      have hcz15_4 := cellS68_4 HGz15
      have hcz15_5 := cellS68_5 HGz15
      have hfz15_0 := kF HGz15 0
      have hfz15_1 := kF HGz15 1
      have hfz15_3 := kF HGz15 3
      clear HGz15 hgz15
      go_wp2
      repeat (go_quiet (fail); try go_wp2)
      go_roundg k1
      case measure => have := HK1.out; omega
      case rel => exact ⟨(wrap64 (Int.tdiv x1_1 t110)), (wrap64 (Int.tdiv x2_1 t110)), (wrap64 (x7_1 + (wrap64 ((Int.tmod (wrap64 ((Int.tmod x1_1 t110) + (Int.tmod x2_1 t110))) t110) * x8_1)))), (wrap64 (x8_1 * t110)), (by first | rfl | (simp; done) | (simp [*]; done)), (by first | rfl | (simp; done) | (simp [*]; done)), (by first | rfl | (simp; done) | (simp [*]; done)), (by first | rfl | (simp; done) | (simp [*]; done)), H', ⟨by have := HK1.out; omega⟩, ⟨by repeat (first | (with_reducible first | exact HI0.out | apply IsS68.alloc | apply IsS68.drewN | apply IsS68.drew | apply IsS68.set_0 | apply IsS68.set_1 | apply IsS68.set_3) | exact HI0.out)⟩, ⟨by repeat (first | (with_reducible first | exact HK.out | apply KeepBut.set_ | apply keep_drewN | apply keep_drew | apply keep_alloc) | exact HK.out)⟩, ⟨by repeat (first | (with_reducible first | exact HB.out | apply bA | apply bN | apply bD | refine bS ?_ (IsS68.ge HI0.out)) | exact HB.out)⟩⟩
    ·rw [if_neg c13] at H
     have c13b0 : decide (0 < x1_1) = false := decide_eq_false c13
     clear c13
     by_cases c16 : x2_1 > 0
     ·rw [if_pos c16] at H
      have c16b0 : decide (0 < x2_1) = true := decide_eq_true c16
      clear c16
      by_cases c17 : t110 = 0
      ·rw [if_pos c17] at H
       exact absurd H (by simp)
      ·rw [if_neg c17] at H
       have c17b0 : (t110 == 0) = false := beq_eq_false_iff_ne.mpr c17
       have c17b1 : (t110 != 0) = true := bne_iff_ne.mpr c17
       have H' := Aside0.mk H
       clear H
       obtain ⟨ASz18_2, cSz18_2, ASz18_4, cSz18_4, ASz18_5, cSz18_5, HGz18, hgz18, HSz18_2, HSz18_4, HSz18_5⟩ := HI0.out
       have hcz18_0 := cellS68_0 HGz18
       have hcz18_1 := cellS68_1 HGz18
       have hcz18_2 := cellS68_2 HGz18
       have hcz18_3 := cellS68_3 HGz18
       have hcz18_4 := cellS68_4 HGz18
       have hcz18_5 := cellS68_5 HGz18
       have hfz18_0 := kF HGz18 0
       have hfz18_1 := kF HGz18 1
       have hfz18_3 := kF HGz18 3
       clear HGz18 hgz18
       go_wp2
       repeat (go_quiet (fail); try go_wp2)
       go_roundg k1
       case measure => have := HK1.out; omega
       case rel => exact ⟨(wrap64 (Int.tdiv x1_1 t110)), (wrap64 (Int.tdiv x2_1 t110)), (wrap64 (x7_1 + (wrap64 ((Int.tmod (wrap64 ((Int.tmod x1_1 t110) + (Int.tmod x2_1 t110))) t110) * x8_1)))), (wrap64 (x8_1 * t110)), (by first | rfl | (simp; done) | (simp [*]; done)), (by first | rfl | (simp; done) | (simp [*]; done)), (by first | rfl | (simp; done) | (simp [*]; done)), (by first | rfl | (simp; done) | (simp [*]; done)), H', ⟨by have := HK1.out; omega⟩, ⟨by repeat (first | (with_reducible first | exact HI0.out | apply IsS68.alloc | apply IsS68.drewN | apply IsS68.drew | apply IsS68.set_0 | apply IsS68.set_1 | apply IsS68.set_3) | exact HI0.out)⟩, ⟨by repeat (first | (with_reducible first | exact HK.out | apply KeepBut.set_ | apply keep_drewN | apply keep_drew | apply keep_alloc) | exact HK.out)⟩, ⟨by repeat (first | (with_reducible first | exact HB.out | apply bA | apply bN | apply bD | refine bS ?_ (IsS68.ge HI0.out)) | exact HB.out)⟩⟩
     ·rw [if_neg c16] at H
      have c16b0 : decide (0 < x2_1) = false := decide_eq_false c16
      clear c16
      simp only [Option.some.injEq, Prod.mk.injEq] at H
      obtain ⟨rfl, rfl, rfl, rfl⟩ := H
      go_wp2
      repeat (go_quiet (fail); try go_wp2)
      go_ret
      exact ⟨by first | rfl | (simp [eN, eS] <;> rfl) | (simp [*, eN, eS] <;> rfl), by repeat (first | (with_reducible first | exact HI0.out | apply IsS68.alloc | apply IsS68.drewN | apply IsS68.drew | apply IsS68.set_0 | apply IsS68.set_1 | apply IsS68.set_3) | exact HI0.out), by repeat (first | (with_reducible first | exact HB.out | apply bA | apply bN | apply bD | refine bS ?_ (IsS68.ge HI0.out)) | exact HB.out), by repeat (first | (with_reducible first | exact HK.out | apply KeepBut.set_ | apply keep_drewN | apply keep_drew | apply keep_alloc) | exact HK.out)⟩
def field_GF_Mul.f (s0_0 : Int) (s0_1 : Int) (s0_2 : List Int) (s0_3 : Int) (s0_4 : List Int) (s0_5 : List Int) (a1 : Int) (a2 : Int) : Option (Int × Int × Int × Int) := (field_GF_in.f s0_0 s0_1 s0_2 s0_3 s0_4 s0_5 a1).bind fun bt113 => ((field_GF_in.f bt113.2.1 bt113.2.2.1 s0_2 bt113.2.2.2 s0_4 s0_5 a2).bind fun bt117 => (if bt113.1 = 0 then (some (0, bt117.2.1, bt117.2.2.1, bt117.2.2.2)) else (if bt117.1 = 0 then (some (0, bt117.2.1, bt117.2.2.1, bt117.2.2.2)) else (if 0 ≤ bt113.1 then (if bt113.1 < (s0_5.length : Int) then (if 0 ≤ bt117.1 then (if bt117.1 < (s0_5.length : Int) then (if (wrap64 (bt117.2.2.2 - 1)) = 0 then (none) else (if 0 ≤ (Int.tmod (wrap64 ((rd s0_5 bt113.1) + (rd s0_5 bt117.1))) (wrap64 (bt117.2.2.2 - 1))) then (if (Int.tmod (wrap64 ((rd s0_5 bt113.1) + (rd s0_5 bt117.1))) (wrap64 (bt117.2.2.2 - 1))) < (s0_4.length : Int) then (some (rd s0_4 (Int.tmod (wrap64 ((rd s0_5 bt113.1) + (rd s0_5 bt117.1))) (wrap64 (bt117.2.2.2 - 1))), bt117.2.1, bt117.2.2.1, bt117.2.2.2)) else (none)) else (none))) else (none)) else (none)) else (none)) else (none)))))
set_option maxHeartbeats 8000000 in
set_option maxRecDepth 100000 in
theorem field_GF_Mul.calls (g : Nat) (s0_0 : Int) (s0_1 : Int) (s0_2 : List Int) (s0_3 : Int) (s0_4 : List Int) (s0_5 : List Int) (a1 : Int) (a2 : Int) (r1 : Int) (r2 : Int) (r3 : Int) (r4 : Int) (w0 w : World) (hI : IsS68 w0 w g s0_0 s0_1 s0_2 s0_3 s0_4 s0_5) (hB : Below w0.heap.size w0 w) (h : field_GF_Mul.f s0_0 s0_1 s0_2 s0_3 s0_4 s0_5 a1 a2 = some (r1, r2, r3, r4)) :
  Calls Try.prog 49 #[.pointer (some ⟨g, 0, none⟩), .int .i64 a1, .int .i64 a2] w fun e w' => e = .returned (.int .i64 r1) ∧ IsS68 w0 w' g r2 r3 s0_2 r4 s0_4 s0_5 ∧ Below w0.heap.size w0 w' ∧ KeepBut w w' g none := by
 have HI0 := Aside0.mk hI
 have HK := Aside0.mk (KeepBut.refl w g none)
 have HL := Aside0.mk hB.size
 clear hI
 have HW0 := Aside0.mk hB.size
 have HB := Aside0.mk hB
 clear hB
 have H : ((field_GF_in.f s0_0 s0_1 s0_2 s0_3 s0_4 s0_5 a1).bind fun bt113 => ((field_GF_in.f bt113.2.1 bt113.2.2.1 s0_2 bt113.2.2.2 s0_4 s0_5 a2).bind fun bt117 => (if bt113.1 = 0 then (some (0, bt117.2.1, bt117.2.2.1, bt117.2.2.2)) else (if bt117.1 = 0 then (some (0, bt117.2.1, bt117.2.2.1, bt117.2.2.2)) else (if 0 ≤ bt113.1 then (if bt113.1 < (s0_5.length : Int) then (if 0 ≤ bt117.1 then (if bt117.1 < (s0_5.length : Int) then (if (wrap64 (bt117.2.2.2 - 1)) = 0 then (none) else (if 0 ≤ (Int.tmod (wrap64 ((rd s0_5 bt113.1) + (rd s0_5 bt117.1))) (wrap64 (bt117.2.2.2 - 1))) then (if (Int.tmod (wrap64 ((rd s0_5 bt113.1) + (rd s0_5 bt117.1))) (wrap64 (bt117.2.2.2 - 1))) < (s0_4.length : Int) then (some (rd s0_4 (Int.tmod (wrap64 ((rd s0_5 bt113.1) + (rd s0_5 bt117.1))) (wrap64 (bt117.2.2.2 - 1))), bt117.2.1, bt117.2.2.1, bt117.2.2.2)) else (none)) else (none))) else (none)) else (none)) else (none)) else (none)))))) = some (r1, r2, r3, r4) := h
 clear h
 replace H := Option.bind_eq_some_iff.mp H
 obtain ⟨⟨t113, t114, t115, t116⟩, A40, H⟩ := H
 replace H : ((field_GF_in.f t114 t115 s0_2 t116 s0_4 s0_5 a2).bind fun bt117 => (if t113 = 0 then (some (0, bt117.2.1, bt117.2.2.1, bt117.2.2.2)) else (if bt117.1 = 0 then (some (0, bt117.2.1, bt117.2.2.1, bt117.2.2.2)) else (if 0 ≤ t113 then (if t113 < (s0_5.length : Int) then (if 0 ≤ bt117.1 then (if bt117.1 < (s0_5.length : Int) then (if (wrap64 (bt117.2.2.2 - 1)) = 0 then (none) else (if 0 ≤ (Int.tmod (wrap64 ((rd s0_5 t113) + (rd s0_5 bt117.1))) (wrap64 (bt117.2.2.2 - 1))) then (if (Int.tmod (wrap64 ((rd s0_5 t113) + (rd s0_5 bt117.1))) (wrap64 (bt117.2.2.2 - 1))) < (s0_4.length : Int) then (some (rd s0_4 (Int.tmod (wrap64 ((rd s0_5 t113) + (rd s0_5 bt117.1))) (wrap64 (bt117.2.2.2 - 1))), bt117.2.1, bt117.2.2.1, bt117.2.2.2)) else (none)) else (none))) else (none)) else (none)) else (none)) else (none))))) = some (r1, r2, r3, r4) := H
 have A4 := Aside0.mk A40
 clear A40
 replace H := Option.bind_eq_some_iff.mp H
 obtain ⟨⟨t117, t118, t119, t120⟩, A50, H⟩ := H
 replace H : (if t113 = 0 then (some (0, t118, t119, t120)) else (if t117 = 0 then (some (0, t118, t119, t120)) else (if 0 ≤ t113 then (if t113 < (s0_5.length : Int) then (if 0 ≤ t117 then (if t117 < (s0_5.length : Int) then (if (wrap64 (t120 - 1)) = 0 then (none) else (if 0 ≤ (Int.tmod (wrap64 ((rd s0_5 t113) + (rd s0_5 t117))) (wrap64 (t120 - 1))) then (if (Int.tmod (wrap64 ((rd s0_5 t113) + (rd s0_5 t117))) (wrap64 (t120 - 1))) < (s0_4.length : Int) then (some (rd s0_4 (Int.tmod (wrap64 ((rd s0_5 t113) + (rd s0_5 t117))) (wrap64 (t120 - 1))), t118, t119, t120)) else (none)) else (none))) else (none)) else (none)) else (none)) else (none)))) = some (r1, r2, r3, r4) := H
 have A5 := Aside0.mk A50
 clear A50
 by_cases c6 : t113 = 0
 ·rw [if_pos c6] at H
  have c6b0 : (t113 == 0) = true := beq_iff_eq.mpr c6
  have c6b1 : (t113 != 0) = false := bne_eq_false_iff_eq.mpr c6
  clear c6
  simp only [Option.some.injEq, Prod.mk.injEq] at H
  obtain ⟨rfl, rfl, rfl, rfl⟩ := H
  go_enter Try.func49, Try.ntmps49
  go_wp2_with (first | (go_at_call 56; (with_reducible refine (field_GF_in.calls g s0_0 s0_1 s0_2 s0_3 s0_4 s0_5 a1 t113 t114 t115 t116 w0 _ ?side1 ?side2 A4.out).mono ?_); (case side1 => repeat (first | (with_reducible first | exact HI0.out | apply IsS68.alloc | apply IsS68.drewN | apply IsS68.drew | apply IsS68.set_0 | apply IsS68.set_1 | apply IsS68.set_3) | exact HI0.out)); (case side2 => repeat (first | (with_reducible first | exact HB.out | apply bA | apply bN | apply bD | refine bS ?_ (IsS68.ge HI0.out)) | exact HB.out)); rintro e w7 ⟨rfl, hi, hb, hk⟩; have n0_ := Aside0.mk (KeepBut.trans (by repeat (first | (with_reducible first | exact HK.out | apply KeepBut.set_ | apply keep_drewN | apply keep_drew | apply keep_alloc) | exact HK.out)) hk (.inl rfl)); have n1_ := Aside0.mk (hb); have n2_ := Aside0.mk (hi); clear HK; clear HB; clear HI0; have HK := n0_; have HB := n1_; have HI0 := n2_; clear n0_ n1_ n2_; (try clear hb); (try clear hb2); (try clear hk); (try clear hi)) | (go_at_call 56; (with_reducible refine (field_GF_in.calls g t114 t115 s0_2 t116 s0_4 s0_5 a2 t117 t118 t119 t120 w0 _ ?side1 ?side2 A5.out).mono ?_); (case side1 => repeat (first | (with_reducible first | exact HI0.out | apply IsS68.alloc | apply IsS68.drewN | apply IsS68.drew | apply IsS68.set_0 | apply IsS68.set_1 | apply IsS68.set_3) | exact HI0.out)); (case side2 => repeat (first | (with_reducible first | exact HB.out | apply bA | apply bN | apply bD | refine bS ?_ (IsS68.ge HI0.out)) | exact HB.out)); rintro e w8 ⟨rfl, hi, hb, hk⟩; have n0_ := Aside0.mk (KeepBut.trans (by repeat (first | (with_reducible first | exact HK.out | apply KeepBut.set_ | apply keep_drewN | apply keep_drew | apply keep_alloc) | exact HK.out)) hk (.inl rfl)); have n1_ := Aside0.mk (hb); have n2_ := Aside0.mk (hi); clear HK; clear HB; clear HI0; have HK := n0_; have HB := n1_; have HI0 := n2_; clear n0_ n1_ n2_; (try clear hb); (try clear hb2); (try clear hk); (try clear hi)))
  repeat (go_quiet (first | (go_at_call 56; (with_reducible refine (field_GF_in.calls g s0_0 s0_1 s0_2 s0_3 s0_4 s0_5 a1 t113 t114 t115 t116 w0 _ ?side1 ?side2 A4.out).mono ?_); (case side1 => repeat (first | (with_reducible first | exact HI0.out | apply IsS68.alloc | apply IsS68.drewN | apply IsS68.drew | apply IsS68.set_0 | apply IsS68.set_1 | apply IsS68.set_3) | exact HI0.out)); (case side2 => repeat (first | (with_reducible first | exact HB.out | apply bA | apply bN | apply bD | refine bS ?_ (IsS68.ge HI0.out)) | exact HB.out)); rintro e w7 ⟨rfl, hi, hb, hk⟩; have n0_ := Aside0.mk (KeepBut.trans (by repeat (first | (with_reducible first | exact HK.out | apply KeepBut.set_ | apply keep_drewN | apply keep_drew | apply keep_alloc) | exact HK.out)) hk (.inl rfl)); have n1_ := Aside0.mk (hb); have n2_ := Aside0.mk (hi); clear HK; clear HB; clear HI0; have HK := n0_; have HB := n1_; have HI0 := n2_; clear n0_ n1_ n2_; (try clear hb); (try clear hb2); (try clear hk); (try clear hi)) | (go_at_call 56; (with_reducible refine (field_GF_in.calls g t114 t115 s0_2 t116 s0_4 s0_5 a2 t117 t118 t119 t120 w0 _ ?side1 ?side2 A5.out).mono ?_); (case side1 => repeat (first | (with_reducible first | exact HI0.out | apply IsS68.alloc | apply IsS68.drewN | apply IsS68.drew | apply IsS68.set_0 | apply IsS68.set_1 | apply IsS68.set_3) | exact HI0.out)); (case side2 => repeat (first | (with_reducible first | exact HB.out | apply bA | apply bN | apply bD | refine bS ?_ (IsS68.ge HI0.out)) | exact HB.out)); rintro e w8 ⟨rfl, hi, hb, hk⟩; have n0_ := Aside0.mk (KeepBut.trans (by repeat (first | (with_reducible first | exact HK.out | apply KeepBut.set_ | apply keep_drewN | apply keep_drew | apply keep_alloc) | exact HK.out)) hk (.inl rfl)); have n1_ := Aside0.mk (hb); have n2_ := Aside0.mk (hi); clear HK; clear HB; clear HI0; have HK := n0_; have HB := n1_; have HI0 := n2_; clear n0_ n1_ n2_; (try clear hb); (try clear hb2); (try clear hk); (try clear hi))); try go_wp2_with (first | (go_at_call 56; (with_reducible refine (field_GF_in.calls g s0_0 s0_1 s0_2 s0_3 s0_4 s0_5 a1 t113 t114 t115 t116 w0 _ ?side1 ?side2 A4.out).mono ?_); (case side1 => repeat (first | (with_reducible first | exact HI0.out | apply IsS68.alloc | apply IsS68.drewN | apply IsS68.drew | apply IsS68.set_0 | apply IsS68.set_1 | apply IsS68.set_3) | exact HI0.out)); (case side2 => repeat (first | (with_reducible first | exact HB.out | apply bA | apply bN | apply bD | refine bS ?_ (IsS68.ge HI0.out)) | exact HB.out)); rintro e w7 ⟨rfl, hi, hb, hk⟩; have n0_ := Aside0.mk (KeepBut.trans (by repeat (first | (with_reducible first | exact HK.out | apply KeepBut.set_ | apply keep_drewN | apply keep_drew | apply keep_alloc) | exact HK.out)) hk (.inl rfl)); have n1_ := Aside0.mk (hb); have n2_ := Aside0.mk (hi); clear HK; clear HB; clear HI0; have HK := n0_; have HB := n1_; have HI0 := n2_; clear n0_ n1_ n2_; (try clear hb); (try clear hb2); (try clear hk); (try clear hi)) | (go_at_call 56; (with_reducible refine (field_GF_in.calls g t114 t115 s0_2 t116 s0_4 s0_5 a2 t117 t118 t119 t120 w0 _ ?side1 ?side2 A5.out).mono ?_); (case side1 => repeat (first | (with_reducible first | exact HI0.out | apply IsS68.alloc | apply IsS68.drewN | apply IsS68.drew | apply IsS68.set_0 | apply IsS68.set_1 | apply IsS68.set_3) | exact HI0.out)); (case side2 => repeat (first | (with_reducible first | exact HB.out | apply bA | apply bN | apply bD | refine bS ?_ (IsS68.ge HI0.out)) | exact HB.out)); rintro e w8 ⟨rfl, hi, hb, hk⟩; have n0_ := Aside0.mk (KeepBut.trans (by repeat (first | (with_reducible first | exact HK.out | apply KeepBut.set_ | apply keep_drewN | apply keep_drew | apply keep_alloc) | exact HK.out)) hk (.inl rfl)); have n1_ := Aside0.mk (hb); have n2_ := Aside0.mk (hi); clear HK; clear HB; clear HI0; have HK := n0_; have HB := n1_; have HI0 := n2_; clear n0_ n1_ n2_; (try clear hb); (try clear hb2); (try clear hk); (try clear hi))))
  go_ret
  exact ⟨by first | rfl | (simp [eN, eS] <;> rfl) | (simp [*, eN, eS] <;> rfl), by repeat (first | (with_reducible first | exact HI0.out | apply IsS68.alloc | apply IsS68.drewN | apply IsS68.drew | apply IsS68.set_0 | apply IsS68.set_1 | apply IsS68.set_3) | exact HI0.out), by repeat (first | (with_reducible first | exact HB.out | apply bA | apply bN | apply bD | refine bS ?_ (IsS68.ge HI0.out)) | exact HB.out), by repeat (first | (with_reducible first | exact HK.out | apply KeepBut.set_ | apply keep_drewN | apply keep_drew | apply keep_alloc) | exact HK.out)⟩
 ·rw [if_neg c6] at H
  have c6b0 : (t113 == 0) = false := beq_eq_false_iff_ne.mpr c6
  have c6b1 : (t113 != 0) = true := bne_iff_ne.mpr c6
  by_cases c9 : t117 = 0
  ·rw [if_pos c9] at H
   have c9b0 : (t117 == 0) = true := beq_iff_eq.mpr c9
   have c9b1 : (t117 != 0) = false := bne_eq_false_iff_eq.mpr c9
   clear c9
   simp only [Option.some.injEq, Prod.mk.injEq] at H
   obtain ⟨rfl, rfl, rfl, rfl⟩ := H
   go_enter Try.func49, Try.ntmps49
   go_wp2_with (first | (go_at_call 56; (with_reducible refine (field_GF_in.calls g s0_0 s0_1 s0_2 s0_3 s0_4 s0_5 a1 t113 t114 t115 t116 w0 _ ?side1 ?side2 A4.out).mono ?_); (case side1 => repeat (first | (with_reducible first | exact HI0.out | apply IsS68.alloc | apply IsS68.drewN | apply IsS68.drew | apply IsS68.set_0 | apply IsS68.set_1 | apply IsS68.set_3) | exact HI0.out)); (case side2 => repeat (first | (with_reducible first | exact HB.out | apply bA | apply bN | apply bD | refine bS ?_ (IsS68.ge HI0.out)) | exact HB.out)); rintro e w10 ⟨rfl, hi, hb, hk⟩; have n0_ := Aside0.mk (KeepBut.trans (by repeat (first | (with_reducible first | exact HK.out | apply KeepBut.set_ | apply keep_drewN | apply keep_drew | apply keep_alloc) | exact HK.out)) hk (.inl rfl)); have n1_ := Aside0.mk (hb); have n2_ := Aside0.mk (hi); clear HK; clear HB; clear HI0; have HK := n0_; have HB := n1_; have HI0 := n2_; clear n0_ n1_ n2_; (try clear hb); (try clear hb2); (try clear hk); (try clear hi)) | (go_at_call 56; (with_reducible refine (field_GF_in.calls g t114 t115 s0_2 t116 s0_4 s0_5 a2 t117 t118 t119 t120 w0 _ ?side1 ?side2 A5.out).mono ?_); (case side1 => repeat (first | (with_reducible first | exact HI0.out | apply IsS68.alloc | apply IsS68.drewN | apply IsS68.drew | apply IsS68.set_0 | apply IsS68.set_1 | apply IsS68.set_3) | exact HI0.out)); (case side2 => repeat (first | (with_reducible first | exact HB.out | apply bA | apply bN | apply bD | refine bS ?_ (IsS68.ge HI0.out)) | exact HB.out)); rintro e w11 ⟨rfl, hi, hb, hk⟩; have n0_ := Aside0.mk (KeepBut.trans (by repeat (first | (with_reducible first | exact HK.out | apply KeepBut.set_ | apply keep_drewN | apply keep_drew | apply keep_alloc) | exact HK.out)) hk (.inl rfl)); have n1_ := Aside0.mk (hb); have n2_ := Aside0.mk (hi); clear HK; clear HB; clear HI0; have HK := n0_; have HB := n1_; have HI0 := n2_; clear n0_ n1_ n2_; (try clear hb); (try clear hb2); (try clear hk); (try clear hi)))
   repeat (go_quiet (first | (go_at_call 56; (with_reducible refine (field_GF_in.calls g s0_0 s0_1 s0_2 s0_3 s0_4 s0_5 a1 t113 t114 t115 t116 w0 _ ?side1 ?side2 A4.out).mono ?_); (case side1 => repeat (first | (with_reducible first | exact HI0.out | apply IsS68.alloc | apply IsS68.drewN | apply IsS68.drew | apply IsS68.set_0 | apply IsS68.set_1 | apply IsS68.set_3) | exact HI0.out)); (case side2 => repeat (first | (with_reducible first | exact HB.out | apply bA | apply bN | apply bD | refine bS ?_ (IsS68.ge HI0.out)) | exact HB.out)); rintro e w10 ⟨rfl, hi, hb, hk⟩; have n0_ := Aside0.mk (KeepBut.trans (by repeat (first | (with_reducible first | exact HK.out | apply KeepBut.set_ | apply keep_drewN | apply keep_drew | apply keep_alloc) | exact HK.out)) hk (.inl rfl)); have n1_ := Aside0.mk (hb); have n2_ := Aside0.mk (hi); clear HK; clear HB; clear HI0; have HK := n0_; have HB := n1_; have HI0 := n2_; clear n0_ n1_ n2_; (try clear hb); (try clear hb2); (try clear hk); (try clear hi)) | (go_at_call 56; (with_reducible refine (field_GF_in.calls g t114 t115 s0_2 t116 s0_4 s0_5 a2 t117 t118 t119 t120 w0 _ ?side1 ?side2 A5.out).mono ?_); (case side1 => repeat (first | (with_reducible first | exact HI0.out | apply IsS68.alloc | apply IsS68.drewN | apply IsS68.drew | apply IsS68.set_0 | apply IsS68.set_1 | apply IsS68.set_3) | exact HI0.out)); (case side2 => repeat (first | (with_reducible first | exact HB.out | apply bA | apply bN | apply bD | refine bS ?_ (IsS68.ge HI0.out)) | exact HB.out)); rintro e w11 ⟨rfl, hi, hb, hk⟩; have n0_ := Aside0.mk (KeepBut.trans (by repeat (first | (with_reducible first | exact HK.out | apply KeepBut.set_ | apply keep_drewN | apply keep_drew | apply keep_alloc) | exact HK.out)) hk (.inl rfl)); have n1_ := Aside0.mk (hb); have n2_ := Aside0.mk (hi); clear HK; clear HB; clear HI0; have HK := n0_; have HB := n1_; have HI0 := n2_; clear n0_ n1_ n2_; (try clear hb); (try clear hb2); (try clear hk); (try clear hi))); try go_wp2_with (first | (go_at_call 56; (with_reducible refine (field_GF_in.calls g s0_0 s0_1 s0_2 s0_3 s0_4 s0_5 a1 t113 t114 t115 t116 w0 _ ?side1 ?side2 A4.out).mono ?_); (case side1 => repeat (first | (with_reducible first | exact HI0.out | apply IsS68.alloc | apply IsS68.drewN | apply IsS68.drew | apply IsS68.set_0 | apply IsS68.set_1 | apply IsS68.set_3) | exact HI0.out)); (case side2 => repeat (first | (with_reducible first | exact HB.out | apply bA | apply bN | apply bD | refine bS ?_ (IsS68.ge HI0.out)) | exact HB.out)); rintro e w10 ⟨rfl, hi, hb, hk⟩; have n0_ := Aside0.mk (KeepBut.trans (by repeat (first | (with_reducible first | exact HK.out | apply KeepBut.set_ | apply keep_drewN | apply keep_drew | apply keep_alloc) | exact HK.out)) hk (.inl rfl)); have n1_ := Aside0.mk (hb); have n2_ := Aside0.mk (hi); clear HK; clear HB; clear HI0; have HK := n0_; have HB := n1_; have HI0 := n2_; clear n0_ n1_ n2_; (try clear hb); (try clear hb2); (try clear hk); (try clear hi)) | (go_at_call 56; (with_reducible refine (field_GF_in.calls g t114 t115 s0_2 t116 s0_4 s0_5 a2 t117 t118 t119 t120 w0 _ ?side1 ?side2 A5.out).mono ?_); (case side1 => repeat (first | (with_reducible first | exact HI0.out | apply IsS68.alloc | apply IsS68.drewN | apply IsS68.drew | apply IsS68.set_0 | apply IsS68.set_1 | apply IsS68.set_3) | exact HI0.out)); (case side2 => repeat (first | (with_reducible first | exact HB.out | apply bA | apply bN | apply bD | refine bS ?_ (IsS68.ge HI0.out)) | exact HB.out)); rintro e w11 ⟨rfl, hi, hb, hk⟩; have n0_ := Aside0.mk (KeepBut.trans (by repeat (first | (with_reducible first | exact HK.out | apply KeepBut.set_ | apply keep_drewN | apply keep_drew | apply keep_alloc) | exact HK.out)) hk (.inl rfl)); have n1_ := Aside0.mk (hb); have n2_ := Aside0.mk (hi); clear HK; clear HB; clear HI0; have HK := n0_; have HB := n1_; have HI0 := n2_; clear n0_ n1_ n2_; (try clear hb); (try clear hb2); (try clear hk); (try clear hi))))
   go_ret
   exact ⟨by first | rfl | (simp [eN, eS] <;> rfl) | (simp [*, eN, eS] <;> rfl), by repeat (first | (with_reducible first | exact HI0.out | apply IsS68.alloc | apply IsS68.drewN | apply IsS68.drew | apply IsS68.set_0 | apply IsS68.set_1 | apply IsS68.set_3) | exact HI0.out), by repeat (first | (with_reducible first | exact HB.out | apply bA | apply bN | apply bD | refine bS ?_ (IsS68.ge HI0.out)) | exact HB.out), by repeat (first | (with_reducible first | exact HK.out | apply KeepBut.set_ | apply keep_drewN | apply keep_drew | apply keep_alloc) | exact HK.out)⟩
  ·rw [if_neg c9] at H
   have c9b0 : (t117 == 0) = false := beq_eq_false_iff_ne.mpr c9
   have c9b1 : (t117 != 0) = true := bne_iff_ne.mpr c9
   by_cases c12 : 0 ≤ t113
   ·rw [if_pos c12] at H
    have c12b0 : decide (0 ≤ t113) = true := decide_eq_true c12
    clear c12
    by_cases c13 : t113 < (s0_5.length : Int)
    ·rw [if_pos c13] at H
     have c13b0 : decide (t113 < (s0_5.length : Int)) = true := decide_eq_true c13
     clear c13
     by_cases c14 : 0 ≤ t117
     ·rw [if_pos c14] at H
      have c14b0 : decide (0 ≤ t117) = true := decide_eq_true c14
      clear c14
      by_cases c15 : t117 < (s0_5.length : Int)
      ·rw [if_pos c15] at H
       have c15b0 : decide (t117 < (s0_5.length : Int)) = true := decide_eq_true c15
       clear c15
       by_cases c16 : (wrap64 (t120 - 1)) = 0
       ·rw [if_pos c16] at H
        exact absurd H (by simp)
       ·rw [if_neg c16] at H
        have c16b0 : ((wrap64 (t120 - 1)) == 0) = false := beq_eq_false_iff_ne.mpr c16
        have c16b1 : ((wrap64 (t120 - 1)) != 0) = true := bne_iff_ne.mpr c16
        obtain ⟨ji17, hji17⟩ : ∃ j_ : Int, (Int.tmod (wrap64 ((rd s0_5 t113) + (rd s0_5 t117))) (wrap64 (t120 - 1))) = j_ := ⟨_, rfl⟩
        replace H : (if 0 ≤ (ji17) then (if (ji17) < (s0_4.length : Int) then (some (rd s0_4 (ji17), t118, t119, t120)) else (none)) else (none)) = some (r1, r2, r3, r4) := by first | (rw [hji17] at H; exact H) | (simp only [hji17] at H ⊢; exact H)
        (try rw [hji17] at A4)
        (try rw [hji17] at A5)
        by_cases c18 : 0 ≤ (ji17)
        ·rw [if_pos c18] at H
         have c18b0 : decide (0 ≤ (ji17)) = true := decide_eq_true c18
         clear c18
         by_cases c19 : (ji17) < (s0_4.length : Int)
         ·rw [if_pos c19] at H
          have c19b0 : decide ((ji17) < (s0_4.length : Int)) = true := decide_eq_true c19
          clear c19
          simp only [Option.some.injEq, Prod.mk.injEq] at H
          obtain ⟨rfl, rfl, rfl, rfl⟩ := H
          go_enter Try.func49, Try.ntmps49
          go_wp2_with (first | (go_at_call 56; (with_reducible refine (field_GF_in.calls g s0_0 s0_1 s0_2 s0_3 s0_4 s0_5 a1 t113 t114 t115 t116 w0 _ ?side1 ?side2 A4.out).mono ?_); (case side1 => repeat (first | (with_reducible first | exact HI0.out | apply IsS68.alloc | apply IsS68.drewN | apply IsS68.drew | apply IsS68.set_0 | apply IsS68.set_1 | apply IsS68.set_3) | exact HI0.out)); (case side2 => repeat (first | (with_reducible first | exact HB.out | apply bA | apply bN | apply bD | refine bS ?_ (IsS68.ge HI0.out)) | exact HB.out)); rintro e w20 ⟨rfl, hi, hb, hk⟩; have n0_ := Aside0.mk (KeepBut.trans (by repeat (first | (with_reducible first | exact HK.out | apply KeepBut.set_ | apply keep_drewN | apply keep_drew | apply keep_alloc) | exact HK.out)) hk (.inl rfl)); have n1_ := Aside0.mk (hb); have n2_ := Aside0.mk (hi); clear HK; clear HB; clear HI0; have HK := n0_; have HB := n1_; have HI0 := n2_; clear n0_ n1_ n2_; (try clear hb); (try clear hb2); (try clear hk); (try clear hi)) | (go_at_call 56; (with_reducible refine (field_GF_in.calls g t114 t115 s0_2 t116 s0_4 s0_5 a2 t117 t118 t119 t120 w0 _ ?side1 ?side2 A5.out).mono ?_); (case side1 => repeat (first | (with_reducible first | exact HI0.out | apply IsS68.alloc | apply IsS68.drewN | apply IsS68.drew | apply IsS68.set_0 | apply IsS68.set_1 | apply IsS68.set_3) | exact HI0.out)); (case side2 => repeat (first | (with_reducible first | exact HB.out | apply bA | apply bN | apply bD | refine bS ?_ (IsS68.ge HI0.out)) | exact HB.out)); rintro e w21 ⟨rfl, hi, hb, hk⟩; have n0_ := Aside0.mk (KeepBut.trans (by repeat (first | (with_reducible first | exact HK.out | apply KeepBut.set_ | apply keep_drewN | apply keep_drew | apply keep_alloc) | exact HK.out)) hk (.inl rfl)); have n1_ := Aside0.mk (hb); have n2_ := Aside0.mk (hi); clear HK; clear HB; clear HI0; have HK := n0_; have HB := n1_; have HI0 := n2_; clear n0_ n1_ n2_; (try clear hb); (try clear hb2); (try clear hk); (try clear hi); obtain ⟨ASz22_2, cSz22_2, ASz22_4, cSz22_4, ASz22_5, cSz22_5, HGz22, hgz22, HSz22_2, HSz22_4, HSz22_5⟩ := HI0.out; have hcz22_0 := cellS68_0 HGz22; have hcz22_1 := cellS68_1 HGz22; have hcz22_2 := cellS68_2 HGz22; have hcz22_3 := cellS68_3 HGz22; have hcz22_4 := cellS68_4 HGz22; have hcz22_5 := cellS68_5 HGz22; have hfz22_0 := kF HGz22 0; have hfz22_1 := kF HGz22 1; have hfz22_3 := kF HGz22 3; clear HGz22 hgz22; have p121 : 0 ≤ (t113 : Int) := of_decide_eq_true (by first | (with_reducible assumption) | assumption); have q121 : t113 < (s0_5.length : Int) := of_decide_eq_true (by first | (with_reducible assumption) | assumption); obtain ⟨ad121, e121, hx121_0⟩ := Kd.at_int HSz22_5 t113 p121 q121; cases e121; replace hx121_0 := pw_cell_below HB.out hx121_0; replace p121 := eq_true p121; replace q121 := eq_true q121; have p122 : 0 ≤ (t117 : Int) := of_decide_eq_true (by first | (with_reducible assumption) | assumption); have q122 : t117 < (s0_5.length : Int) := of_decide_eq_true (by first | (with_reducible assumption) | assumption); obtain ⟨ad122, e122, hx122_0⟩ := Kd.at_int HSz22_5 t117 p122 q122; obtain rfl : ad121 = ad122 := (by injection e122); replace hx122_0 := pw_cell_below HB.out hx122_0; replace p122 := eq_true p122; replace q122 := eq_true q122; have p123 : 0 ≤ ((ji17) : Int) := of_decide_eq_true (by first | (with_reducible assumption) | assumption); have q123 : (ji17) < (s0_4.length : Int) := of_decide_eq_true (by first | (with_reducible assumption) | assumption); obtain ⟨ad123, e123, hx123_0⟩ := Kd.at_int HSz22_4 (ji17) p123 q123; cases e123; replace hx123_0 := pw_cell_below HB.out hx123_0; replace p123 := eq_true p123; replace q123 := eq_true q123))
          repeat (go_quiet (first | (go_at_call 56; (with_reducible refine (field_GF_in.calls g s0_0 s0_1 s0_2 s0_3 s0_4 s0_5 a1 t113 t114 t115 t116 w0 _ ?side1 ?side2 A4.out).mono ?_); (case side1 => repeat (first | (with_reducible first | exact HI0.out | apply IsS68.alloc | apply IsS68.drewN | apply IsS68.drew | apply IsS68.set_0 | apply IsS68.set_1 | apply IsS68.set_3) | exact HI0.out)); (case side2 => repeat (first | (with_reducible first | exact HB.out | apply bA | apply bN | apply bD | refine bS ?_ (IsS68.ge HI0.out)) | exact HB.out)); rintro e w20 ⟨rfl, hi, hb, hk⟩; have n0_ := Aside0.mk (KeepBut.trans (by repeat (first | (with_reducible first | exact HK.out | apply KeepBut.set_ | apply keep_drewN | apply keep_drew | apply keep_alloc) | exact HK.out)) hk (.inl rfl)); have n1_ := Aside0.mk (hb); have n2_ := Aside0.mk (hi); clear HK; clear HB; clear HI0; have HK := n0_; have HB := n1_; have HI0 := n2_; clear n0_ n1_ n2_; (try clear hb); (try clear hb2); (try clear hk); (try clear hi)) | (go_at_call 56; (with_reducible refine (field_GF_in.calls g t114 t115 s0_2 t116 s0_4 s0_5 a2 t117 t118 t119 t120 w0 _ ?side1 ?side2 A5.out).mono ?_); (case side1 => repeat (first | (with_reducible first | exact HI0.out | apply IsS68.alloc | apply IsS68.drewN | apply IsS68.drew | apply IsS68.set_0 | apply IsS68.set_1 | apply IsS68.set_3) | exact HI0.out)); (case side2 => repeat (first | (with_reducible first | exact HB.out | apply bA | apply bN | apply bD | refine bS ?_ (IsS68.ge HI0.out)) | exact HB.out)); rintro e w21 ⟨rfl, hi, hb, hk⟩; have n0_ := Aside0.mk (KeepBut.trans (by repeat (first | (with_reducible first | exact HK.out | apply KeepBut.set_ | apply keep_drewN | apply keep_drew | apply keep_alloc) | exact HK.out)) hk (.inl rfl)); have n1_ := Aside0.mk (hb); have n2_ := Aside0.mk (hi); clear HK; clear HB; clear HI0; have HK := n0_; have HB := n1_; have HI0 := n2_; clear n0_ n1_ n2_; (try clear hb); (try clear hb2); (try clear hk); (try clear hi); obtain ⟨ASz22_2, cSz22_2, ASz22_4, cSz22_4, ASz22_5, cSz22_5, HGz22, hgz22, HSz22_2, HSz22_4, HSz22_5⟩ := HI0.out; have hcz22_0 := cellS68_0 HGz22; have hcz22_1 := cellS68_1 HGz22; have hcz22_2 := cellS68_2 HGz22; have hcz22_3 := cellS68_3 HGz22; have hcz22_4 := cellS68_4 HGz22; have hcz22_5 := cellS68_5 HGz22; have hfz22_0 := kF HGz22 0; have hfz22_1 := kF HGz22 1; have hfz22_3 := kF HGz22 3; clear HGz22 hgz22; have p121 : 0 ≤ (t113 : Int) := of_decide_eq_true (by first | (with_reducible assumption) | assumption); have q121 : t113 < (s0_5.length : Int) := of_decide_eq_true (by first | (with_reducible assumption) | assumption); obtain ⟨ad121, e121, hx121_0⟩ := Kd.at_int HSz22_5 t113 p121 q121; cases e121; replace hx121_0 := pw_cell_below HB.out hx121_0; replace p121 := eq_true p121; replace q121 := eq_true q121; have p122 : 0 ≤ (t117 : Int) := of_decide_eq_true (by first | (with_reducible assumption) | assumption); have q122 : t117 < (s0_5.length : Int) := of_decide_eq_true (by first | (with_reducible assumption) | assumption); obtain ⟨ad122, e122, hx122_0⟩ := Kd.at_int HSz22_5 t117 p122 q122; obtain rfl : ad121 = ad122 := (by injection e122); replace hx122_0 := pw_cell_below HB.out hx122_0; replace p122 := eq_true p122; replace q122 := eq_true q122; have p123 : 0 ≤ ((ji17) : Int) := of_decide_eq_true (by first | (with_reducible assumption) | assumption); have q123 : (ji17) < (s0_4.length : Int) := of_decide_eq_true (by first | (with_reducible assumption) | assumption); obtain ⟨ad123, e123, hx123_0⟩ := Kd.at_int HSz22_4 (ji17) p123 q123; cases e123; replace hx123_0 := pw_cell_below HB.out hx123_0; replace p123 := eq_true p123; replace q123 := eq_true q123)); try go_wp2_with (first | (go_at_call 56; (with_reducible refine (field_GF_in.calls g s0_0 s0_1 s0_2 s0_3 s0_4 s0_5 a1 t113 t114 t115 t116 w0 _ ?side1 ?side2 A4.out).mono ?_); (case side1 => repeat (first | (with_reducible first | exact HI0.out | apply IsS68.alloc | apply IsS68.drewN | apply IsS68.drew | apply IsS68.set_0 | apply IsS68.set_1 | apply IsS68.set_3) | exact HI0.out)); (case side2 => repeat (first | (with_reducible first | exact HB.out | apply bA | apply bN | apply bD | refine bS ?_ (IsS68.ge HI0.out)) | exact HB.out)); rintro e w20 ⟨rfl, hi, hb, hk⟩; have n0_ := Aside0.mk (KeepBut.trans (by repeat (first | (with_reducible first | exact HK.out | apply KeepBut.set_ | apply keep_drewN | apply keep_drew | apply keep_alloc) | exact HK.out)) hk (.inl rfl)); have n1_ := Aside0.mk (hb); have n2_ := Aside0.mk (hi); clear HK; clear HB; clear HI0; have HK := n0_; have HB := n1_; have HI0 := n2_; clear n0_ n1_ n2_; (try clear hb); (try clear hb2); (try clear hk); (try clear hi)) | (go_at_call 56; (with_reducible refine (field_GF_in.calls g t114 t115 s0_2 t116 s0_4 s0_5 a2 t117 t118 t119 t120 w0 _ ?side1 ?side2 A5.out).mono ?_); (case side1 => repeat (first | (with_reducible first | exact HI0.out | apply IsS68.alloc | apply IsS68.drewN | apply IsS68.drew | apply IsS68.set_0 | apply IsS68.set_1 | apply IsS68.set_3) | exact HI0.out)); (case side2 => repeat (first | (with_reducible first | exact HB.out | apply bA | apply bN | apply bD | refine bS ?_ (IsS68.ge HI0.out)) | exact HB.out)); rintro e w21 ⟨rfl, hi, hb, hk⟩; have n0_ := Aside0.mk (KeepBut.trans (by repeat (first | (with_reducible first | exact HK.out | apply KeepBut.set_ | apply keep_drewN | apply keep_drew | apply keep_alloc) | exact HK.out)) hk (.inl rfl)); have n1_ := Aside0.mk (hb); have n2_ := Aside0.mk (hi); clear HK; clear HB; clear HI0; have HK := n0_; have HB := n1_; have HI0 := n2_; clear n0_ n1_ n2_; (try clear hb); (try clear hb2); (try clear hk); (try clear hi); obtain ⟨ASz22_2, cSz22_2, ASz22_4, cSz22_4, ASz22_5, cSz22_5, HGz22, hgz22, HSz22_2, HSz22_4, HSz22_5⟩ := HI0.out; have hcz22_0 := cellS68_0 HGz22; have hcz22_1 := cellS68_1 HGz22; have hcz22_2 := cellS68_2 HGz22; have hcz22_3 := cellS68_3 HGz22; have hcz22_4 := cellS68_4 HGz22; have hcz22_5 := cellS68_5 HGz22; have hfz22_0 := kF HGz22 0; have hfz22_1 := kF HGz22 1; have hfz22_3 := kF HGz22 3; clear HGz22 hgz22; have p121 : 0 ≤ (t113 : Int) := of_decide_eq_true (by first | (with_reducible assumption) | assumption); have q121 : t113 < (s0_5.length : Int) := of_decide_eq_true (by first | (with_reducible assumption) | assumption); obtain ⟨ad121, e121, hx121_0⟩ := Kd.at_int HSz22_5 t113 p121 q121; cases e121; replace hx121_0 := pw_cell_below HB.out hx121_0; replace p121 := eq_true p121; replace q121 := eq_true q121; have p122 : 0 ≤ (t117 : Int) := of_decide_eq_true (by first | (with_reducible assumption) | assumption); have q122 : t117 < (s0_5.length : Int) := of_decide_eq_true (by first | (with_reducible assumption) | assumption); obtain ⟨ad122, e122, hx122_0⟩ := Kd.at_int HSz22_5 t117 p122 q122; obtain rfl : ad121 = ad122 := (by injection e122); replace hx122_0 := pw_cell_below HB.out hx122_0; replace p122 := eq_true p122; replace q122 := eq_true q122; have p123 : 0 ≤ ((ji17) : Int) := of_decide_eq_true (by first | (with_reducible assumption) | assumption); have q123 : (ji17) < (s0_4.length : Int) := of_decide_eq_true (by first | (with_reducible assumption) | assumption); obtain ⟨ad123, e123, hx123_0⟩ := Kd.at_int HSz22_4 (ji17) p123 q123; cases e123; replace hx123_0 := pw_cell_below HB.out hx123_0; replace p123 := eq_true p123; replace q123 := eq_true q123)))
          go_ret
          exact ⟨by first | rfl | (simp [eN, eS] <;> rfl) | (simp only [← hji17]; first | rfl | (simp [eN, eS] <;> rfl)) | (simp [*, eN, eS] <;> rfl), by repeat (first | (with_reducible first | exact HI0.out | apply IsS68.alloc | apply IsS68.drewN | apply IsS68.drew | apply IsS68.set_0 | apply IsS68.set_1 | apply IsS68.set_3) | exact HI0.out), by repeat (first | (with_reducible first | exact HB.out | apply bA | apply bN | apply bD | refine bS ?_ (IsS68.ge HI0.out)) | exact HB.out), by repeat (first | (with_reducible first | exact HK.out | apply KeepBut.set_ | apply keep_drewN | apply keep_drew | apply keep_alloc) | exact HK.out)⟩
         ·rw [if_neg c19] at H
          exact absurd H (by simp)
        ·rw [if_neg c18] at H
         exact absurd H (by simp)
      ·rw [if_neg c15] at H
       exact absurd H (by simp)
     ·rw [if_neg c14] at H
      exact absurd H (by simp)
    ·rw [if_neg c13] at H
     exact absurd H (by simp)
   ·rw [if_neg c12] at H
    exact absurd H (by simp)
def field_GF_Pow.j0 : Nat → Int → Int → Bool → Int → Int → List Int → Int → List Int → List Int → Option (Int × Int × Int × Int × Int)
 | 0, _, _, _, _, _, _, _, _, _ => none
 | k + 1, x1, x2, x15, x1000, x1001, x1002, x1003, x1004, x1005 => if x15 = true then (some (0, 7, x1000, x1001, x1003)) else (if x1 = 0 then (some (0, 0, x1000, x1001, x1003)) else (if (wrap64 (x1003 - 1)) = 0 then (none) else (if 0 ≤ x1 then (if x1 < (x1005.length : Int) then (if 0 ≤ (Int.tmod (wrap64 ((rd x1005 x1) * (Int.tmod (wrap64 ((Int.tmod x2 (wrap64 (x1003 - 1))) + (wrap64 (x1003 - 1)))) (wrap64 (x1003 - 1))))) (wrap64 (x1003 - 1))) then (if (Int.tmod (wrap64 ((rd x1005 x1) * (Int.tmod (wrap64 ((Int.tmod x2 (wrap64 (x1003 - 1))) + (wrap64 (x1003 - 1)))) (wrap64 (x1003 - 1))))) (wrap64 (x1003 - 1))) < (x1004.length : Int) then (some (rd x1004 (Int.tmod (wrap64 ((rd x1005 x1) * (Int.tmod (wrap64 ((Int.tmod x2 (wrap64 (x1003 - 1))) + (wrap64 (x1003 - 1)))) (wrap64 (x1003 - 1))))) (wrap64 (x1003 - 1))), 0, x1000, x1001, x1003)) else (none)) else (none)) else (none)) else (none))))
def field_GF_Pow.f (k : Nat) (s0_0 : Int) (s0_1 : Int) (s0_2 : List Int) (s0_3 : Int) (s0_4 : List Int) (s0_5 : List Int) (a1 : Int) (a2 : Int) : Option (Int × Int × Int × Int × Int) := (field_GF_in.f s0_0 s0_1 s0_2 s0_3 s0_4 s0_5 a1).bind fun bt124 => (if a2 = 0 then (some (1, 0, bt124.2.1, bt124.2.2.1, bt124.2.2.2)) else (if bt124.1 = 0 then (field_GF_Pow.j0 k bt124.1 a2 (decide (a2 < 0)) bt124.2.1 bt124.2.2.1 s0_2 bt124.2.2.2 s0_4 s0_5) else (field_GF_Pow.j0 k bt124.1 a2 false bt124.2.1 bt124.2.2.1 s0_2 bt124.2.2.2 s0_4 s0_5)))
set_option maxHeartbeats 8000000 in
set_option maxRecDepth 100000 in
theorem field_GF_Pow.calls (k : Nat) (g : Nat) (s0_0 : Int) (s0_1 : Int) (s0_2 : List Int) (s0_3 : Int) (s0_4 : List Int) (s0_5 : List Int) (a1 : Int) (a2 : Int) (r1 : Int) (r2 : Int) (r3 : Int) (r4 : Int) (r5 : Int) (w0 w : World) (hI : IsS68 w0 w g s0_0 s0_1 s0_2 s0_3 s0_4 s0_5) (hB : Below w0.heap.size w0 w) (h : field_GF_Pow.f k s0_0 s0_1 s0_2 s0_3 s0_4 s0_5 a1 a2 = some (r1, r2, r3, r4, r5)) :
  Calls Try.prog 40 #[.pointer (some ⟨g, 0, none⟩), .int .i64 a1, .int .i64 a2] w fun e w' => e = .returned (.tuple #[.int .i64 r1, .int .i64 r2]) ∧ IsS68 w0 w' g r3 r4 s0_2 r5 s0_4 s0_5 ∧ Below w0.heap.size w0 w' ∧ KeepBut w w' g none := by
 have HI0 := Aside0.mk hI
 have HK := Aside0.mk (KeepBut.refl w g none)
 have HL := Aside0.mk hB.size
 clear hI
 have HW0 := Aside0.mk hB.size
 have HB := Aside0.mk hB
 clear hB
 have H : ((field_GF_in.f s0_0 s0_1 s0_2 s0_3 s0_4 s0_5 a1).bind fun bt124 => (if a2 = 0 then (some (1, 0, bt124.2.1, bt124.2.2.1, bt124.2.2.2)) else (if bt124.1 = 0 then (field_GF_Pow.j0 k bt124.1 a2 (decide (a2 < 0)) bt124.2.1 bt124.2.2.1 s0_2 bt124.2.2.2 s0_4 s0_5) else (field_GF_Pow.j0 k bt124.1 a2 false bt124.2.1 bt124.2.2.1 s0_2 bt124.2.2.2 s0_4 s0_5)))) = some (r1, r2, r3, r4, r5) := h
 clear h
 replace H := Option.bind_eq_some_iff.mp H
 obtain ⟨⟨t124, t125, t126, t127⟩, A40, H⟩ := H
 replace H : (if a2 = 0 then (some (1, 0, t125, t126, t127)) else (if t124 = 0 then (field_GF_Pow.j0 k t124 a2 (decide (a2 < 0)) t125 t126 s0_2 t127 s0_4 s0_5) else (field_GF_Pow.j0 k t124 a2 false t125 t126 s0_2 t127 s0_4 s0_5))) = some (r1, r2, r3, r4, r5) := H
 have A4 := Aside0.mk A40
 clear A40
 by_cases c5 : a2 = 0
 ·rw [if_pos c5] at H
  have c5b0 : (a2 == 0) = true := beq_iff_eq.mpr c5
  have c5b1 : (a2 != 0) = false := bne_eq_false_iff_eq.mpr c5
  clear c5
  simp only [Option.some.injEq, Prod.mk.injEq] at H
  obtain ⟨rfl, rfl, rfl, rfl, rfl⟩ := H
  go_enter Try.func40, Try.ntmps40
  go_wp2_with (first | (go_at_call 56; (with_reducible refine (field_GF_in.calls g s0_0 s0_1 s0_2 s0_3 s0_4 s0_5 a1 t124 t125 t126 t127 w0 _ ?side1 ?side2 A4.out).mono ?_); (case side1 => repeat (first | (with_reducible first | exact HI0.out | apply IsS68.alloc | apply IsS68.drewN | apply IsS68.drew | apply IsS68.set_0 | apply IsS68.set_1 | apply IsS68.set_3) | exact HI0.out)); (case side2 => repeat (first | (with_reducible first | exact HB.out | apply bA | apply bN | apply bD | refine bS ?_ (IsS68.ge HI0.out)) | exact HB.out)); rintro e w6 ⟨rfl, hi, hb, hk⟩; have n0_ := Aside0.mk (KeepBut.trans (by repeat (first | (with_reducible first | exact HK.out | apply KeepBut.set_ | apply keep_drewN | apply keep_drew | apply keep_alloc) | exact HK.out)) hk (.inl rfl)); have n1_ := Aside0.mk (hb); have n2_ := Aside0.mk (hi); clear HK; clear HB; clear HI0; have HK := n0_; have HB := n1_; have HI0 := n2_; clear n0_ n1_ n2_; (try clear hb); (try clear hb2); (try clear hk); (try clear hi)))
  repeat (go_quiet (first | (go_at_call 56; (with_reducible refine (field_GF_in.calls g s0_0 s0_1 s0_2 s0_3 s0_4 s0_5 a1 t124 t125 t126 t127 w0 _ ?side1 ?side2 A4.out).mono ?_); (case side1 => repeat (first | (with_reducible first | exact HI0.out | apply IsS68.alloc | apply IsS68.drewN | apply IsS68.drew | apply IsS68.set_0 | apply IsS68.set_1 | apply IsS68.set_3) | exact HI0.out)); (case side2 => repeat (first | (with_reducible first | exact HB.out | apply bA | apply bN | apply bD | refine bS ?_ (IsS68.ge HI0.out)) | exact HB.out)); rintro e w6 ⟨rfl, hi, hb, hk⟩; have n0_ := Aside0.mk (KeepBut.trans (by repeat (first | (with_reducible first | exact HK.out | apply KeepBut.set_ | apply keep_drewN | apply keep_drew | apply keep_alloc) | exact HK.out)) hk (.inl rfl)); have n1_ := Aside0.mk (hb); have n2_ := Aside0.mk (hi); clear HK; clear HB; clear HI0; have HK := n0_; have HB := n1_; have HI0 := n2_; clear n0_ n1_ n2_; (try clear hb); (try clear hb2); (try clear hk); (try clear hi))); try go_wp2_with (first | (go_at_call 56; (with_reducible refine (field_GF_in.calls g s0_0 s0_1 s0_2 s0_3 s0_4 s0_5 a1 t124 t125 t126 t127 w0 _ ?side1 ?side2 A4.out).mono ?_); (case side1 => repeat (first | (with_reducible first | exact HI0.out | apply IsS68.alloc | apply IsS68.drewN | apply IsS68.drew | apply IsS68.set_0 | apply IsS68.set_1 | apply IsS68.set_3) | exact HI0.out)); (case side2 => repeat (first | (with_reducible first | exact HB.out | apply bA | apply bN | apply bD | refine bS ?_ (IsS68.ge HI0.out)) | exact HB.out)); rintro e w6 ⟨rfl, hi, hb, hk⟩; have n0_ := Aside0.mk (KeepBut.trans (by repeat (first | (with_reducible first | exact HK.out | apply KeepBut.set_ | apply keep_drewN | apply keep_drew | apply keep_alloc) | exact HK.out)) hk (.inl rfl)); have n1_ := Aside0.mk (hb); have n2_ := Aside0.mk (hi); clear HK; clear HB; clear HI0; have HK := n0_; have HB := n1_; have HI0 := n2_; clear n0_ n1_ n2_; (try clear hb); (try clear hb2); (try clear hk); (try clear hi))))
  go_ret2
  exact ⟨by first | rfl | (simp [eN, eS] <;> rfl) | (simp [*, eN, eS] <;> rfl), by repeat (first | (with_reducible first | exact HI0.out | apply IsS68.alloc | apply IsS68.drewN | apply IsS68.drew | apply IsS68.set_0 | apply IsS68.set_1 | apply IsS68.set_3) | exact HI0.out), by repeat (first | (with_reducible first | exact HB.out | apply bA | apply bN | apply bD | refine bS ?_ (IsS68.ge HI0.out)) | exact HB.out), by repeat (first | (with_reducible first | exact HK.out | apply KeepBut.set_ | apply keep_drewN | apply keep_drew | apply keep_alloc) | exact HK.out)⟩
 ·rw [if_neg c5] at H
  have c5b0 : (a2 == 0) = false := beq_eq_false_iff_ne.mpr c5
  have c5b1 : (a2 != 0) = true := bne_iff_ne.mpr c5
  have HC7 := Aside0.mk H
  clear H
  go_enter Try.func40, Try.ntmps40
  go_upto_region 4 with (first | (go_at_call 56; (with_reducible refine (field_GF_in.calls g s0_0 s0_1 s0_2 s0_3 s0_4 s0_5 a1 t124 t125 t126 t127 w0 _ ?side1 ?side2 A4.out).mono ?_); (case side1 => repeat (first | (with_reducible first | exact HI0.out | apply IsS68.alloc | apply IsS68.drewN | apply IsS68.drew | apply IsS68.set_0 | apply IsS68.set_1 | apply IsS68.set_3) | exact HI0.out)); (case side2 => repeat (first | (with_reducible first | exact HB.out | apply bA | apply bN | apply bD | refine bS ?_ (IsS68.ge HI0.out)) | exact HB.out)); rintro e w8 ⟨rfl, hi, hb, hk⟩; have n0_ := Aside0.mk (KeepBut.trans (by repeat (first | (with_reducible first | exact HK.out | apply KeepBut.set_ | apply keep_drewN | apply keep_drew | apply keep_alloc) | exact HK.out)) hk (.inl rfl)); have n1_ := Aside0.mk (hb); have n2_ := Aside0.mk (hi); clear HK; clear HB; clear HI0; have HK := n0_; have HB := n1_; have HI0 := n2_; clear n0_ n1_ n2_; (try clear hb); (try clear hb2); (try clear hk); (try clear hi)))
  repeat (go_quiet (first | (go_at_call 56; (with_reducible refine (field_GF_in.calls g s0_0 s0_1 s0_2 s0_3 s0_4 s0_5 a1 t124 t125 t126 t127 w0 _ ?side1 ?side2 A4.out).mono ?_); (case side1 => repeat (first | (with_reducible first | exact HI0.out | apply IsS68.alloc | apply IsS68.drewN | apply IsS68.drew | apply IsS68.set_0 | apply IsS68.set_1 | apply IsS68.set_3) | exact HI0.out)); (case side2 => repeat (first | (with_reducible first | exact HB.out | apply bA | apply bN | apply bD | refine bS ?_ (IsS68.ge HI0.out)) | exact HB.out)); rintro e w8 ⟨rfl, hi, hb, hk⟩; have n0_ := Aside0.mk (KeepBut.trans (by repeat (first | (with_reducible first | exact HK.out | apply KeepBut.set_ | apply keep_drewN | apply keep_drew | apply keep_alloc) | exact HK.out)) hk (.inl rfl)); have n1_ := Aside0.mk (hb); have n2_ := Aside0.mk (hi); clear HK; clear HB; clear HI0; have HK := n0_; have HB := n1_; have HI0 := n2_; clear n0_ n1_ n2_; (try clear hb); (try clear hb2); (try clear hk); (try clear hi))); go_upto_region 4 with (first | (go_at_call 56; (with_reducible refine (field_GF_in.calls g s0_0 s0_1 s0_2 s0_3 s0_4 s0_5 a1 t124 t125 t126 t127 w0 _ ?side1 ?side2 A4.out).mono ?_); (case side1 => repeat (first | (with_reducible first | exact HI0.out | apply IsS68.alloc | apply IsS68.drewN | apply IsS68.drew | apply IsS68.set_0 | apply IsS68.set_1 | apply IsS68.set_3) | exact HI0.out)); (case side2 => repeat (first | (with_reducible first | exact HB.out | apply bA | apply bN | apply bD | refine bS ?_ (IsS68.ge HI0.out)) | exact HB.out)); rintro e w8 ⟨rfl, hi, hb, hk⟩; have n0_ := Aside0.mk (KeepBut.trans (by repeat (first | (with_reducible first | exact HK.out | apply KeepBut.set_ | apply keep_drewN | apply keep_drew | apply keep_alloc) | exact HK.out)) hk (.inl rfl)); have n1_ := Aside0.mk (hb); have n2_ := Aside0.mk (hi); clear HK; clear HB; clear HI0; have HK := n0_; have HB := n1_; have HI0 := n2_; clear n0_ n1_ n2_; (try clear hb); (try clear hb2); (try clear hk); (try clear hi))))
  (try simp only [Act.put, List.setIfInBounds_toArray, List.set_cons_zero, List.set_cons_succ])
  go_cut [15] (fun v15 wc => ∃ (kq : Nat) (x15_6 : Bool), v15 = .bool x15_6 ∧ Aside0 (field_GF_Pow.j0 kq t124 a2 x15_6 t125 t126 s0_2 t127 s0_4 s0_5 = some (r1, r2, r3, r4, r5)) ∧ Aside0 (kq ≤ k) ∧ Aside0 (IsS68 w0 wc g t125 t126 s0_2 t127 s0_4 s0_5) ∧ Aside0 (KeepBut w wc g none) ∧ Aside0 (Below w0.heap.size w0 wc))
  case first =>
   have H := HC7.out
   clear HC7
   by_cases c9 : t124 = 0
   ·rw [if_pos c9] at H
    have c9b0 : (t124 == 0) = true := beq_iff_eq.mpr c9
    have c9b1 : (t124 != 0) = false := bne_eq_false_iff_eq.mpr c9
    clear c9
    (first | rw [c9b0] | (simp only [i64_w, i32_w]; rw [c9b0]) | skip)
    have H' := Aside0.mk H
    clear H
    go_wp2
    repeat (go_quiet (fail); try go_wp2)
    go_meet
    case rel => exact ⟨_, (decide (a2 < 0)), (by first | rfl | (simp; done) | (simp [*]; done)), H', ⟨by first | omega | exact Nat.le_refl _⟩, ⟨by repeat (first | (with_reducible first | exact HI0.out | apply IsS68.alloc | apply IsS68.drewN | apply IsS68.drew | apply IsS68.set_0 | apply IsS68.set_1 | apply IsS68.set_3) | exact HI0.out)⟩, ⟨by repeat (first | (with_reducible first | exact HK.out | apply KeepBut.set_ | apply keep_drewN | apply keep_drew | apply keep_alloc) | exact HK.out)⟩, ⟨by repeat (first | (with_reducible first | exact HB.out | apply bA | apply bN | apply bD | refine bS ?_ (IsS68.ge HI0.out)) | exact HB.out)⟩⟩
   ·rw [if_neg c9] at H
    have c9b0 : (t124 == 0) = false := beq_eq_false_iff_ne.mpr c9
    have c9b1 : (t124 != 0) = true := bne_iff_ne.mpr c9
    (first | rw [c9b0] | (simp only [i64_w, i32_w]; rw [c9b0]) | skip)
    have H' := Aside0.mk H
    clear H
    go_wp2
    repeat (go_quiet (fail); try go_wp2)
    go_meet
    case rel => exact ⟨_, (false), (by first | rfl | (simp; done) | (simp [*]; done)), H', ⟨by first | omega | exact Nat.le_refl _⟩, ⟨by repeat (first | (with_reducible first | exact HI0.out | apply IsS68.alloc | apply IsS68.drewN | apply IsS68.drew | apply IsS68.set_0 | apply IsS68.set_1 | apply IsS68.set_3) | exact HI0.out)⟩, ⟨by repeat (first | (with_reducible first | exact HK.out | apply KeepBut.set_ | apply keep_drewN | apply keep_drew | apply keep_alloc) | exact HK.out)⟩, ⟨by repeat (first | (with_reducible first | exact HB.out | apply bA | apply bN | apply bD | refine bS ?_ (IsS68.ge HI0.out)) | exact HB.out)⟩⟩
  case rest =>
   clear HC7
   try clear p2
   try clear c4
   try clear c5
   try clear c5b0
   try clear c5b1
   try clear c9
   try clear c9b0
   try clear c9b1
   obtain ⟨kq, x15_6, rfl, HA, HJ6, HI0, HK, HB⟩ := hcut
   cases kq with
   | zero => exact absurd HA.out (by simp [field_GF_Pow.j0])
   | succ kj6 =>
    have H := HA.out
    clear HA
    simp only [field_GF_Pow.j0] at H
    by_cases c10 : x15_6 = true
    ·subst c10
     have H1 : (some (0, 7, t125, t126, t127)) = some (r1, r2, r3, r4, r5) := by rw [if_pos rfl] at H; exact H
     clear H
     have H := H1
     clear H1
     simp only [Option.some.injEq, Prod.mk.injEq] at H
     obtain ⟨rfl, rfl, rfl, rfl, rfl⟩ := H
     go_wp2
     repeat (go_quiet (fail); try go_wp2)
     go_ret2
     exact ⟨by first | rfl | (simp [eN, eS] <;> rfl) | (simp [*, eN, eS] <;> rfl), by repeat (first | (with_reducible first | exact HI0.out | apply IsS68.alloc | apply IsS68.drewN | apply IsS68.drew | apply IsS68.set_0 | apply IsS68.set_1 | apply IsS68.set_3) | exact HI0.out), by repeat (first | (with_reducible first | exact HB.out | apply bA | apply bN | apply bD | refine bS ?_ (IsS68.ge HI0.out)) | exact HB.out), by repeat (first | (with_reducible first | exact HK.out | apply KeepBut.set_ | apply keep_drewN | apply keep_drew | apply keep_alloc) | exact HK.out)⟩
    ·replace c10 := Bool.eq_false_iff.mpr c10
     subst c10
     have H1 : (if t124 = 0 then (some (0, 0, t125, t126, t127)) else (if (wrap64 (t127 - 1)) = 0 then (none) else (if 0 ≤ t124 then (if t124 < (s0_5.length : Int) then (if 0 ≤ (Int.tmod (wrap64 ((rd s0_5 t124) * (Int.tmod (wrap64 ((Int.tmod a2 (wrap64 (t127 - 1))) + (wrap64 (t127 - 1)))) (wrap64 (t127 - 1))))) (wrap64 (t127 - 1))) then (if (Int.tmod (wrap64 ((rd s0_5 t124) * (Int.tmod (wrap64 ((Int.tmod a2 (wrap64 (t127 - 1))) + (wrap64 (t127 - 1)))) (wrap64 (t127 - 1))))) (wrap64 (t127 - 1))) < (s0_4.length : Int) then (some (rd s0_4 (Int.tmod (wrap64 ((rd s0_5 t124) * (Int.tmod (wrap64 ((Int.tmod a2 (wrap64 (t127 - 1))) + (wrap64 (t127 - 1)))) (wrap64 (t127 - 1))))) (wrap64 (t127 - 1))), 0, t125, t126, t127)) else (none)) else (none)) else (none)) else (none)))) = some (r1, r2, r3, r4, r5) := by rw [if_neg (show ¬ (false = true) by decide)] at H; exact H
     clear H
     have H := H1
     clear H1
     by_cases c11 : t124 = 0
     ·rw [if_pos c11] at H
      have c11b0 : (t124 == 0) = true := beq_iff_eq.mpr c11
      have c11b1 : (t124 != 0) = false := bne_eq_false_iff_eq.mpr c11
      clear c11
      simp only [Option.some.injEq, Prod.mk.injEq] at H
      obtain ⟨rfl, rfl, rfl, rfl, rfl⟩ := H
      go_wp2
      repeat (go_quiet (fail); try go_wp2)
      go_ret2
      exact ⟨by first | rfl | (simp [eN, eS] <;> rfl) | (simp [*, eN, eS] <;> rfl), by repeat (first | (with_reducible first | exact HI0.out | apply IsS68.alloc | apply IsS68.drewN | apply IsS68.drew | apply IsS68.set_0 | apply IsS68.set_1 | apply IsS68.set_3) | exact HI0.out), by repeat (first | (with_reducible first | exact HB.out | apply bA | apply bN | apply bD | refine bS ?_ (IsS68.ge HI0.out)) | exact HB.out), by repeat (first | (with_reducible first | exact HK.out | apply KeepBut.set_ | apply keep_drewN | apply keep_drew | apply keep_alloc) | exact HK.out)⟩
     ·rw [if_neg c11] at H
      have c11b0 : (t124 == 0) = false := beq_eq_false_iff_ne.mpr c11
      have c11b1 : (t124 != 0) = true := bne_iff_ne.mpr c11
      by_cases c12 : (wrap64 (t127 - 1)) = 0
      ·rw [if_pos c12] at H
       exact absurd H (by simp)
      ·rw [if_neg c12] at H
       have c12b0 : ((wrap64 (t127 - 1)) == 0) = false := beq_eq_false_iff_ne.mpr c12
       have c12b1 : ((wrap64 (t127 - 1)) != 0) = true := bne_iff_ne.mpr c12
       by_cases c13 : 0 ≤ t124
       ·rw [if_pos c13] at H
        have c13b0 : decide (0 ≤ t124) = true := decide_eq_true c13
        clear c13
        by_cases c14 : t124 < (s0_5.length : Int)
        ·rw [if_pos c14] at H
         have c14b0 : decide (t124 < (s0_5.length : Int)) = true := decide_eq_true c14
         clear c14
         obtain ⟨ji15, hji15⟩ : ∃ j_ : Int, (Int.tmod (wrap64 ((rd s0_5 t124) * (Int.tmod (wrap64 ((Int.tmod a2 (wrap64 (t127 - 1))) + (wrap64 (t127 - 1)))) (wrap64 (t127 - 1))))) (wrap64 (t127 - 1))) = j_ := ⟨_, rfl⟩
         replace H : (if 0 ≤ (ji15) then (if (ji15) < (s0_4.length : Int) then (some (rd s0_4 (ji15), 0, t125, t126, t127)) else (none)) else (none)) = some (r1, r2, r3, r4, r5) := by first | (rw [hji15] at H; exact H) | (simp only [hji15] at H ⊢; exact H)
         by_cases c16 : 0 ≤ (ji15)
         ·rw [if_pos c16] at H
          have c16b0 : decide (0 ≤ (ji15)) = true := decide_eq_true c16
          clear c16
          by_cases c17 : (ji15) < (s0_4.length : Int)
          ·rw [if_pos c17] at H
           have c17b0 : decide ((ji15) < (s0_4.length : Int)) = true := decide_eq_true c17
           clear c17
           simp only [Option.some.injEq, Prod.mk.injEq] at H
           obtain ⟨rfl, rfl, rfl, rfl, rfl⟩ := H
           obtain ⟨ASz18_2, cSz18_2, ASz18_4, cSz18_4, ASz18_5, cSz18_5, HGz18, hgz18, HSz18_2, HSz18_4, HSz18_5⟩ := HI0.out
           have hcz18_0 := cellS68_0 HGz18
           have hcz18_1 := cellS68_1 HGz18
           have hcz18_2 := cellS68_2 HGz18
           have hcz18_3 := cellS68_3 HGz18
           have hcz18_4 := cellS68_4 HGz18
           have hcz18_5 := cellS68_5 HGz18
           have hfz18_0 := kF HGz18 0
           have hfz18_1 := kF HGz18 1
           have hfz18_3 := kF HGz18 3
           clear HGz18 hgz18
           have p128 : 0 ≤ (t124 : Int) := of_decide_eq_true (by first | (with_reducible assumption) | assumption)
           have q128 : t124 < (s0_5.length : Int) := of_decide_eq_true (by first | (with_reducible assumption) | assumption)
           obtain ⟨ad128, e128, hx128_0⟩ := Kd.at_int HSz18_5 t124 p128 q128
           cases e128
           replace hx128_0 := pw_cell_below HB.out hx128_0
           replace p128 := eq_true p128
           replace q128 := eq_true q128
           have p129 : 0 ≤ ((ji15) : Int) := of_decide_eq_true (by first | (with_reducible assumption) | assumption)
           have q129 : (ji15) < (s0_4.length : Int) := of_decide_eq_true (by first | (with_reducible assumption) | assumption)
           obtain ⟨ad129, e129, hx129_0⟩ := Kd.at_int HSz18_4 (ji15) p129 q129
           cases e129
           replace hx129_0 := pw_cell_below HB.out hx129_0
           replace p129 := eq_true p129
           replace q129 := eq_true q129
           go_wp2
           repeat (go_quiet (fail); try go_wp2)
           go_ret2
           exact ⟨by first | rfl | (simp [eN, eS] <;> rfl) | (simp only [← hji15]; first | rfl | (simp [eN, eS] <;> rfl)) | (simp [*, eN, eS] <;> rfl), by repeat (first | (with_reducible first | exact HI0.out | apply IsS68.alloc | apply IsS68.drewN | apply IsS68.drew | apply IsS68.set_0 | apply IsS68.set_1 | apply IsS68.set_3) | exact HI0.out), by repeat (first | (with_reducible first | exact HB.out | apply bA | apply bN | apply bD | refine bS ?_ (IsS68.ge HI0.out)) | exact HB.out), by repeat (first | (with_reducible first | exact HK.out | apply KeepBut.set_ | apply keep_drewN | apply keep_drew | apply keep_alloc) | exact HK.out)⟩
          ·rw [if_neg c17] at H
           exact absurd H (by simp)
         ·rw [if_neg c16] at H
          exact absurd H (by simp)
        ·rw [if_neg c14] at H
         exact absurd H (by simp)
       ·rw [if_neg c13] at H
        exact absurd H (by simp)
end
end Go.Proofs.Ytoambdpchjeklaa.GS
end
-- GmL
section
namespace Go.Proofs.Ytoambdpchjeklaa.Hand
open Go.RowKit Go.Proofs.YtoambdpchjeklaaW.PrintWords
theorem w64 {n : Int} (h0 : -9223372036854775808 ≤ n) (h1 : n < 9223372036854775808) : wrap64 n = n := by
  unfold wrap64; omega
theorem w64n (n : Nat) (h : n < 9223372036854775808) : wrap64 (n : Int) = n := w64 (by omega) (by omega)
theorem GFok.isS {w : World} {b : Nat} {G : GFv} (h : GFok w b G) : GS.IsS68 w w b (G.F.p : Int) (G.F.m : Int) G.mod (G.q : Int) G.exp G.log := by
  obtain ⟨A2, c2, A4, c4, A5, c5, h4, h5, h6, h7, h8, h9, h10⟩ := h
  exact ⟨A2, c2, A4, c4, A5, c5, h4, trivial, h5, h7, h9⟩
theorem gs_in (G : GFv) (x : Int) : GS.field_GF_in.f (G.F.p : Int) (G.F.m : Int) G.mod (G.q : Int) G.exp G.log x = some (G.inn x, (G.F.p : Int), (G.F.m : Int), (G.q : Int)) := by
  unfold GS.field_GF_in.f GS.field_GF_Is.f Cw.GFv.inn Cw.GFv.is
  by_cases h : 0 ≤ x
  · rw [if_pos h]
    by_cases h2 : x < (G.q : Int)
    · simp [h, h2]
    · simp [h2]
  · rw [if_neg h]
    simp [h]
theorem rd_exp (G : GFv) {i : Nat} (h : i < G.q - 1) : rd G.exp (i : Int) = G.num (Cw.pw G.gen i) := by
  unfold rd; rw [Int.toNat_natCast]; exact G.exp_at h
theorem rd_log (G : GFv) {x : Int} (h : G.is x) : rd G.log x = (G.lg (G.el x) : Int) := by
  unfold rd; exact G.log_el h
theorem inn_nat (G : GFv) (x : Int) : ∃ a : Nat, G.inn x = (a : Int) ∧ a < G.q ∧ (G.el x).code = a := by
  have h := G.inn_is x
  have h1 := h.1
  have h2 := h.2
  refine ⟨(G.inn x).toNat, by omega, by omega, ?_⟩
  have := G.num_el x
  unfold Cw.GFv.num at this
  omega
theorem log_len (G : GFv) : (G.log.length : Int) = (G.q : Int) := by rw [G.log_length]
theorem exp_len (G : GFv) : (G.exp.length : Int) = ((G.q - 1 : Nat) : Int) := by rw [G.exp_length]
end Go.Proofs.Ytoambdpchjeklaa.Hand
end
-- GmA
section
namespace Go.Proofs.Ytoambdpchjeklaa.Hand
open Go.RowKit Go.Proofs.YtoambdpchjeklaaW.PrintWords
theorem gs_add_loop (G : GFv) (n : Nat) : ∀ (x y s t : Nat), x < G.F.p ^ n → y < G.F.p ^ n → t * G.F.p ^ n ≤ 65536 → s < t →
    Ev (fun k => GS.field_GF_Add.l0 k (x : Int) (y : Int) (s : Int) (t : Int) (G.F.p : Int) (G.F.m : Int) G.mod (G.q : Int) G.exp G.log) ((s + t * Cw.addc G.F.p n x y : Nat), (G.F.p : Int), (G.F.m : Int), (G.q : Int)) := by
  have hp := G.p_ge
  have hq := G.q_le
  have hpq := G.p_le
  induction n with
  | zero =>
    intro x y s t hx hy hs ht
    rw [Nat.pow_zero] at hx hy
    obtain rfl : x = 0 := by omega
    obtain rfl : y = 0 := by omega
    refine Ev.step (f := fun _ => _) (fun k => by simp only [GS.field_GF_Add.l0]; rw [if_neg (by omega), if_neg (by omega)]) ?_
    simp only [Cw.addc, Nat.mul_zero, Nat.add_zero]
    exact Ev.now _
  | succ n ih =>
    intro x y s t hx hy hs ht
    by_cases h0 : x = 0 ∧ y = 0
    · obtain ⟨rfl, rfl⟩ := h0
      refine Ev.step (f := fun _ => _) (fun k => by simp only [GS.field_GF_Add.l0]; rw [if_neg (by omega), if_neg (by omega)]) ?_
      rw [Cw.addc_zero, Nat.mul_zero, Nat.add_zero]
      exact Ev.now _
    · have hpow : 1 ≤ G.F.p ^ n := Nat.one_le_pow _ _ (by omega)
      have e1 : t * G.F.p ^ (n + 1) = t * G.F.p * G.F.p ^ n := by rw [Nat.pow_succ]; ac_rfl
      have e2 : t * G.F.p * 1 ≤ t * G.F.p * G.F.p ^ n := Nat.mul_le_mul_left _ hpow
      have e3 : t * 2 ≤ t * G.F.p := Nat.mul_le_mul_left _ hp
      have hm := Nat.mod_lt (x % G.F.p + y % G.F.p) (show 0 < G.F.p by omega)
      have hmx := Nat.mod_lt x (show 0 < G.F.p by omega)
      have hmy := Nat.mod_lt y (show 0 < G.F.p by omega)
      have e4 : (x % G.F.p + y % G.F.p) % G.F.p * t ≤ (G.F.p - 1) * t := Nat.mul_le_mul_right _ (by omega)
      have e5 : (G.F.p - 1) * t + t = t * G.F.p := by
        rw [← Nat.succ_mul, show (G.F.p - 1).succ = G.F.p from by omega, Nat.mul_comm]
      have hxp : x / G.F.p ≤ x := Nat.div_le_self _ _
      have hyp : y / G.F.p ≤ y := Nat.div_le_self _ _
      have hxb : x < 65536 := by
        have : G.F.p ^ (n + 1) ≤ t * G.F.p ^ (n + 1) := Nat.le_mul_of_pos_left _ (by omega)
        omega
      have hyb : y < 65536 := by
        have : G.F.p ^ (n + 1) ≤ t * G.F.p ^ (n + 1) := Nat.le_mul_of_pos_left _ (by omega)
        omega
      have key : ∀ k, GS.field_GF_Add.l0 (k + 1) (x : Int) (y : Int) (s : Int) (t : Int) (G.F.p : Int) (G.F.m : Int) G.mod (G.q : Int) G.exp G.log
          = GS.field_GF_Add.l0 k ((x / G.F.p : Nat) : Int) ((y / G.F.p : Nat) : Int) ((s + (x % G.F.p + y % G.F.p) % G.F.p * t : Nat) : Int) ((t * G.F.p : Nat) : Int) (G.F.p : Int) (G.F.m : Int) G.mod (G.q : Int) G.exp G.log := by
        intro k
        have hnext : wrap64 (Int.tdiv (x : Int) (G.F.p : Int)) = ((x / G.F.p : Nat) : Int) ∧ wrap64 (Int.tdiv (y : Int) (G.F.p : Int)) = ((y / G.F.p : Nat) : Int)
            ∧ wrap64 ((s : Int) + wrap64 (Int.tmod (wrap64 (Int.tmod (x : Int) (G.F.p : Int) + Int.tmod (y : Int) (G.F.p : Int))) (G.F.p : Int) * (t : Int))) = ((s + (x % G.F.p + y % G.F.p) % G.F.p * t : Nat) : Int)
            ∧ wrap64 ((t : Int) * (G.F.p : Int)) = ((t * G.F.p : Nat) : Int) := by
          refine ⟨?_, ?_, ?_, ?_⟩
          · rw [Cw.tdiv_nat, w64n _ (by omega)]
          · rw [Cw.tdiv_nat, w64n _ (by omega)]
          · rw [Cw.tmod_nat, Cw.tmod_nat, ← Int.natCast_add, w64n _ (by omega), Cw.tmod_nat, ← Int.natCast_mul, w64n _ (by omega), ← Int.natCast_add, w64n _ (by omega)]
          · rw [← Int.natCast_mul, w64n _ (by omega)]
        obtain ⟨n1, n2, n3, n4⟩ := hnext
        simp only [GS.field_GF_Add.l0]
        rw [n1, n2, n3, n4]
        by_cases hx0 : (x : Int) > 0
        · rw [if_pos hx0, if_neg (by omega)]
        · rw [if_neg hx0, if_pos (by omega), if_neg (by omega)]
      refine Ev.step key ?_
      have := ih (x / G.F.p) (y / G.F.p) (s + (x % G.F.p + y % G.F.p) % G.F.p * t) (t * G.F.p) (Cw.div_lt_pow (by omega) hx) (Cw.div_lt_pow (by omega) hy) (by rw [e1] at hs; exact hs) (by omega)
      rw [show s + t * Cw.addc G.F.p (n + 1) x y = s + (x % G.F.p + y % G.F.p) % G.F.p * t + t * G.F.p * Cw.addc G.F.p n (x / G.F.p) (y / G.F.p) from by
        rw [Cw.addc, Nat.mul_add, Nat.add_assoc]; congr 2
        · rw [Nat.mul_comm]
        · rw [Nat.mul_assoc]]
      exact this
theorem xor_bits (a b : Nat) (ha : a < 2 ^ 62) (hb : b < 2 ^ 62) : Go.bits .xor .i64 (a : Int) (b : Int) = ((a ^^^ b : Nat) : Int) := by
  have hx := Nat.xor_lt_two_pow ha hb
  have ha' : a % 2 ^ 64 = a := Nat.mod_eq_of_lt (by omega)
  have hb' : b % 2 ^ 64 = b := Nat.mod_eq_of_lt (by omega)
  have e : ∀ x y : BitVec 64, x = BitVec.ofNat 64 a → y = BitVec.ofNat 64 b → (x ^^^ y).toNat = a ^^^ b := by
    intro x y hx hy
    rw [hx, hy, BitVec.toNat_xor, BitVec.toNat_ofNat, BitVec.toNat_ofNat, ha', hb']
  have e2 := e (BitVec.ofInt 64 (a : Int)) (BitVec.ofInt 64 (b : Int)) (BitVec.ofInt_natCast 64 a) (BitVec.ofInt_natCast 64 b)
  show IntKind.i64.wrap (((BitVec.ofInt 64 (a : Int) ^^^ BitVec.ofInt 64 (b : Int)).toNat : Nat) : Int) = _
  rw [e2, IntKind.wrap_i64]
  omega
theorem gs_add (G : GFv) (x y : Int) : Ev (fun k => GS.field_GF_Add.f k (G.F.p : Int) (G.F.m : Int) G.mod (G.q : Int) G.exp G.log x y) (G.add x y, (G.F.p : Int), (G.F.m : Int), (G.q : Int)) := by
  obtain ⟨a, ha, haq, hac⟩ := inn_nat G x
  obtain ⟨b, hb, hbq, hbc⟩ := inn_nat G y
  have hq := G.q_le
  have hadd : G.add x y = ((Cw.addc G.F.p G.F.m a b : Nat) : Int) := by
    unfold Cw.GFv.add Cw.GFv.num; rw [Cw.El.code_add, hac, hbc]
  rw [hadd]
  by_cases h2 : (G.F.p : Int) = 2
  · refine Ev.congr (f := fun _ => some (((Cw.addc G.F.p G.F.m a b : Nat) : Int), (G.F.p : Int), (G.F.m : Int), (G.q : Int))) (fun k => ?_) (Ev.now _)
    unfold GS.field_GF_Add.f
    rw [gs_in]; simp only [Option.bind_some]; rw [gs_in]; simp only [Option.bind_some]
    rw [if_pos h2, ha, hb, xor_bits a b (by omega) (by omega)]
    have hp2 : G.F.p = 2 := by omega
    have hqq : G.q = 2 ^ G.F.m := by unfold Cw.GFv.q; rw [hp2]
    rw [hp2, Cw.addc_two _ _ _ (by omega) (by omega)]
  · have hl := gs_add_loop G G.F.m a b 0 1 haq hbq (by show 1 * G.q ≤ _; omega) (by omega)
    rw [Nat.zero_add, Nat.one_mul] at hl
    refine Ev.congr (fun k => ?_) hl
    unfold GS.field_GF_Add.f
    rw [gs_in]; simp only [Option.bind_some]; rw [gs_in]; simp only [Option.bind_some]
    rw [if_neg h2, ha, hb]
    rfl
def field_GF_Add.f (a0 : GFv) (a1 : Int) (a2 : Int) : Option (Int) := some (a0.add a1 a2)
theorem field_GF_Add.calls (b_a0 : Nat) (a0 : GFv) (a1 : Int) (a2 : Int) (r : Int) (w : World) (hg0 : GFok w b_a0 a0) (h : field_GF_Add.f a0 a1 a2 = some r) :
    Calls Try.prog 41 #[.pointer (some ⟨b_a0, 0, none⟩), .int .i64 a1, .int .i64 a2] w fun e w' => e = .returned (.int .i64 r) ∧ Below w.heap.size w w' := by
  obtain rfl := Option.some.inj h
  obtain ⟨k, hk⟩ := (gs_add a0 a1 a2).rounds
  exact (GS.field_GF_Add.calls k b_a0 _ _ _ _ _ _ a1 a2 _ _ _ _ w w hg0.isS (Below.refl _ _) hk).mono fun e w' h => ⟨h.1, h.2.2.1⟩
theorem gs_mul (G : GFv) (x y : Int) : GS.field_GF_Mul.f (G.F.p : Int) (G.F.m : Int) G.mod (G.q : Int) G.exp G.log x y = some (G.mul x y, (G.F.p : Int), (G.F.m : Int), (G.q : Int)) := by
  have hq := G.q_le
  have hq2 := G.q_ge
  unfold GS.field_GF_Mul.f
  rw [gs_in]; simp only [Option.bind_some]; rw [gs_in]; simp only [Option.bind_some]
  by_cases hx : G.inn x = 0
  · have hm : G.mul x y = 0 := by
      unfold Cw.GFv.mul; rw [G.el_eq_zero.2 hx, Cw.zero_mul, G.num_zero]
    rw [if_pos hx, hm]
  by_cases hy : G.inn y = 0
  · have hm : G.mul x y = 0 := by
      unfold Cw.GFv.mul; rw [G.el_eq_zero.2 hy, Cw.mul_zero, G.num_zero]
    rw [if_neg hx, if_pos hy, hm]
  have hxe : G.el x ≠ 0 := fun h => hx (G.el_eq_zero.1 h)
  have hye : G.el y ≠ 0 := fun h => hy (G.el_eq_zero.1 h)
  have ix := G.inn_is x
  have iy := G.inn_is y
  have lx := G.lg_spec hxe
  have ly := G.lg_spec hye
  have hlog := log_len G
  have hexp := exp_len G
  rw [rd_log G ix, rd_log G iy, G.el_inn, G.el_inn, w64 (n := (G.q : Int) - 1) (by omega) (by omega), ← Int.natCast_add, w64n _ (by omega),
    show (G.q : Int) - 1 = ((G.q - 1 : Nat) : Int) from by omega, Cw.tmod_nat]
  have hlt := Nat.mod_lt (G.lg (G.el x) + G.lg (G.el y)) (show 0 < G.q - 1 by omega)
  rw [if_neg hx, if_neg hy, if_pos ix.1, if_pos (by rw [hlog]; exact ix.2), if_pos iy.1, if_pos (by rw [hlog]; exact iy.2), if_neg (by omega), if_pos (by omega), if_pos (by omega), rd_exp G hlt]
  unfold Cw.GFv.mul
  rw [G.pw_mod, Cw.pw_add, lx.2, ly.2]
def field_GF_Mul.f (a0 : GFv) (a1 : Int) (a2 : Int) : Option (Int) := some (a0.mul a1 a2)
theorem field_GF_Mul.calls (b_a0 : Nat) (a0 : GFv) (a1 : Int) (a2 : Int) (r : Int) (w : World) (hg0 : GFok w b_a0 a0) (h : field_GF_Mul.f a0 a1 a2 = some r) :
    Calls Try.prog 49 #[.pointer (some ⟨b_a0, 0, none⟩), .int .i64 a1, .int .i64 a2] w fun e w' => e = .returned (.int .i64 r) ∧ Below w.heap.size w w' := by
  obtain rfl := Option.some.inj h
  exact (GS.field_GF_Mul.calls b_a0 _ _ _ _ _ _ a1 a2 _ _ _ _ w w hg0.isS (Below.refl _ _) (gs_mul a0 a1 a2)).mono fun e w' h => ⟨h.1, h.2.2.1⟩
theorem tmod_norm (n : Int) (k : Nat) (hk : 0 < k) : Int.tmod (Int.tmod n k + k) k = n % (k : Int) := by
  have h1 := Int.tmod_lt_of_pos n (show (0 : Int) < (k : Int) by omega)
  have h2 := Int.lt_tmod_of_pos n (show (0 : Int) < (k : Int) by omega)
  rw [Int.tmod_eq_emod_of_nonneg (by omega)]
  have h3 := Int.tmod_add_mul_tdiv n (k : Int)
  conv => rhs; rw [← h3]
  rw [Int.add_mul_emod_self_left, Int.add_emod_right]
theorem gs_pow (G : GFv) (x n : Int) : ∀ k, GS.field_GF_Pow.f (k + 1) (G.F.p : Int) (G.F.m : Int) G.mod (G.q : Int) G.exp G.log x n = some ((G.pow x n).1, (G.pow x n).2, (G.F.p : Int), (G.F.m : Int), (G.q : Int)) := by
  intro k
  have hq := G.q_le
  have hq2 := G.q_ge
  unfold GS.field_GF_Pow.f
  rw [gs_in]; simp only [Option.bind_some]
  unfold Cw.GFv.pow
  by_cases hn : n = 0
  · rw [if_pos hn, if_pos hn]
  rw [if_neg hn, if_neg hn]
  by_cases hx : G.inn x = 0
  · rw [if_pos hx, if_pos (G.el_eq_zero.2 hx)]
    simp only [GS.field_GF_Pow.j0]
    by_cases hneg : n < 0
    · rw [if_pos (by simpa using hneg), if_pos hneg]
    · rw [if_neg (by simpa using hneg), if_pos hx, if_neg hneg]
  · have hxe : G.el x ≠ 0 := fun h => hx (G.el_eq_zero.1 h)
    rw [if_neg hx, if_neg hxe]
    simp only [GS.field_GF_Pow.j0]
    have ix := G.inn_is x
    have lx := G.lg_spec hxe
    have hlog := log_len G
    have hexp := exp_len G
    have hk : 0 < G.q - 1 := by omega
    have b1 := Int.tmod_lt_of_pos n (show (0 : Int) < ((G.q - 1 : Nat) : Int) by omega)
    have b2 := Int.lt_tmod_of_pos n (show (0 : Int) < ((G.q - 1 : Nat) : Int) by omega)
    have b3 := Int.emod_nonneg n (show ((G.q - 1 : Nat) : Int) ≠ 0 by omega)
    have b4 := Int.emod_lt_of_pos n (show (0 : Int) < ((G.q - 1 : Nat) : Int) by omega)
    rw [w64 (n := (G.q : Int) - 1) (by omega) (by omega), show (G.q : Int) - 1 = ((G.q - 1 : Nat) : Int) from by omega, w64 (n := Int.tmod n _ + _) (by omega) (by omega), tmod_norm n _ hk, rd_log G ix, G.el_inn]
    obtain ⟨j, hj⟩ : ∃ j : Nat, n % ((G.q - 1 : Nat) : Int) = (j : Int) := ⟨(n % ((G.q - 1 : Nat) : Int)).toNat, by omega⟩
    rw [hj] at b4 ⊢
    have hb : G.lg (G.el x) * j ≤ 256 * 256 := Nat.mul_le_mul (by omega) (by omega)
    have hlt := Nat.mod_lt (G.lg (G.el x) * j) hk
    rw [← Int.natCast_mul, w64n _ (by omega), Cw.tmod_nat, if_neg (by simp), if_neg hx, if_neg (by omega), if_pos ix.1, if_pos (by rw [hlog]; exact ix.2), if_pos (by omega), if_pos (by omega), rd_exp G hlt, Int.toNat_natCast, G.pw_mod, Cw.pw_mul, lx.2]
def field_GF_Pow.f (a0 : GFv) (a1 : Int) (a2 : Int) : Option (Int × Int) := some (a0.pow a1 a2)
theorem field_GF_Pow.calls (b_a0 : Nat) (a0 : GFv) (a1 : Int) (a2 : Int) (r1 : Int) (r2 : Int) (w : World) (hg0 : GFok w b_a0 a0) (h : field_GF_Pow.f a0 a1 a2 = some (r1, r2)) :
    Calls Try.prog 40 #[.pointer (some ⟨b_a0, 0, none⟩), .int .i64 a1, .int .i64 a2] w fun e w' => e = .returned (.tuple #[.int .i64 r1, .int .i64 r2]) ∧ Below w.heap.size w w' := by
  have h' := Option.some.inj h
  obtain ⟨rfl, rfl⟩ : (a0.pow a1 a2).1 = r1 ∧ (a0.pow a1 a2).2 = r2 := by rw [h']; exact ⟨rfl, rfl⟩
  exact (GS.field_GF_Pow.calls 1 b_a0 _ _ _ _ _ _ a1 a2 _ _ _ _ _ w w hg0.isS (Below.refl _ _) (gs_pow a0 a1 a2 0)).mono fun e w' h => ⟨h.1, h.2.2.1⟩
end Go.Proofs.Ytoambdpchjeklaa.Hand
end
-- GmField
section
namespace Go.Proofs.Ytoambdpchjeklaa.Hand
noncomputable section
open Go.RowKit Go.Proofs.Ytoambdpchjeklaa.P Go.Proofs.YtoambdpchjeklaaW.PrintWords Go.Proofs.YtoambdpchjeklaaW.PrintLast Go.Proofs.YtoambdpchjeklaaW.PrintMore
theorem mod_short (G : GFv) : G.mod.length ≤ 8 := by
  by_cases h : G.F.m = 1
  · rw [(G.mod1 h).1]; simp
  · rw [(G.modm h).1]
    have h2 : 2 ^ G.F.m ≤ 2 ^ 8 := Nat.le_trans (Nat.pow_le_pow_left G.p_ge _) G.small
    exact (Nat.pow_le_pow_iff_right (by omega)).1 h2
theorem results_c {P : Program} {fn : Func} {p : Tmp} {ty : TypeId} (h : fn.results = #[.cell p ty]) (tmps : Array Value) (w : World) (g : Nat) (t : TypeId) (cs : Array Value) (fr : Nat × Nat) (d : TypeDesc)
    (hp : tmps.getD p undef = .pointer (some ⟨g, 0, none⟩)) (hg : w.heap[g]? = some (.cells cs t fr))
    (hu : P.underlying ty = some d) (hd : (match d with | .struct _ | .array _ _ => true | _ => false) = true) (hi : (P.info? ty).map (·.size) = some cs.size) :
    (results fn tmps).run P w = .ok (.agg cs) w := by
  have hp' : tmps[p]?.getD undef = .pointer (some ⟨g, 0, none⟩) := by simpa using hp
  simp [results, h, hp', asAddr, run_loadVar_row w g t ty cs fr d hg hu hd hi]
def field_GF_Field.f (a0 : GFv) : Option (Int × Int × List Int) := some ((a0.F.p : Int), (a0.F.m : Int), a0.mod)
def field_GF_Field.T1 : Bool × List (List Nat × List Nat) := (true, [([], []), ([0], [0]), ([1], [1]), ([2], [2]), ([3], [3]), ([], []), ([5], [5]), ([6], [6]), ([7], [7]), ([8], [8]), ([], []), ([], []), ([11], [11]), ([12], [12]), ([13], [13]), ([14], [14]), ([10, 15], [10, 15]), ([4, 9, 16], [4, 9, 16]), ([17, 16, 0, 1, 2, 3, 4, 5, 6, 7, 8, 9, 10, 11, 12, 13, 14, 15, 16, 17], [17])])
def field_GF_Field.B1 : List Nat := [0, 1, 3, 7, 15, 0, 32, 96, 224, 480, 0, 0, 2048, 6144, 14336, 30720, 64512, 131071, 262143]
theorem field_GF_Field.tab1 : rtab .any (opsOf Try.f55 1) = field_GF_Field.T1 := by kernel_rfl
theorem field_GF_Field.bits1 : waitsOk field_GF_Field.T1.2 field_GF_Field.B1 = true := by kernel_rfl
set_option maxHeartbeats 8000000 in
set_option maxRecDepth 100000 in
theorem field_GF_Field.calls (b_a0 : Nat) (a0 : GFv) (r1 : Int) (r2 : Int) (r3 : List Int) (w : World) (hg0 : GFok w b_a0 a0) (h : field_GF_Field.f a0 = some (r1, r2, r3)) :
    Calls Try.prog 55 #[.pointer (some ⟨b_a0, 0, none⟩)] w fun e w' => ∃ v2_ : Value, e = .returned (.agg #[.int .i64 r1, .int .i64 r2, v2_]) ∧ Kd.R (Kd.int .i64) 3 w' w.heap.size (fun _ => True) v2_ r3 ∧ Below w.heap.size w w' := by
  have hu24 := Try.underlying24
  have HL := Aside0.mk (mod_short a0)
  have HB := Aside0.mk (Below.refl w.heap.size w)
  unfold field_GF_Field.f at h
  simp only [Option.some.injEq, Prod.mk.injEq] at h
  obtain ⟨rfl, rfl, rfl⟩ := h
  obtain ⟨A2, c2, A4, c4, A5, c5, hb0, hr2, hc2, -⟩ := hg0
  have BKg := Aside0.mk hb0
  have HR2 := Aside0.mk hr2
  clear hb0 hr2 hc2
  go_enter Try.func55, Try.ntmps55
  go_upto_region 1 with (first | ((with_reducible refine gate_dst (N := 2) rfl ?_); refine box_event ?hg (N := 2) ?hd (cs := #[.int .i64 0, .int .i64 0, .slice none 0 0]) (t := 24) ?hr ?_; (case hd => rfl); (case hg => rfl); (case hr => first | (go_simp; done) | (go_simp; rfl)); intro gr hg w4 hbox hb; have n0_ := Aside0.mk (bP HB.out hb); have n1_ := Aside0.mk hbox; have n2_ := Aside0.mk (show w.heap.size ≤ gr by rw [hg]; exact bZ HB.out); have n3_ := Aside0.mk (kB (g := b_a0) BKg.out hb); clear HB BKg; have HB := n0_; have BKr := n1_; have GEr := n2_; have BKg := n3_; clear n0_ n1_ n2_ n3_ hb hbox hg))
  have n0_ := Aside0.mk (kD BKr.out)
  have n1_ := Aside0.mk (bD HB.out)
  have n2_ := Aside0.mk (kD BKg.out)
  clear HB BKr BKg
  have BKr := n0_
  have HB := n1_
  have BKg := n2_
  clear n0_ n1_ n2_
  refine start_ (n := 19) (S := fun w' => w'.cell? ⟨b_a0, 0, none⟩ = some (.int .i64 (a0.F.p : Int)) ∧ w'.cell? ⟨b_a0, 1, none⟩ = some (.int .i64 (a0.F.m : Int)) ∧ w'.cell? ⟨b_a0, 2, none⟩ = some (.slice A2 a0.mod.length c2)) (ds := [18]) #[false, false, false, false, false, false, false, false, false, false, false, false, false, false, false, false, false, false, false] (by kernel_rfl) rfl rfl ⟨(kC BKg.out 0).trans rfl, (kC BKg.out 1).trans rfl, (kC BKg.out 2).trans rfl⟩ (fun hHeld => ?_); refine with_tabW field_GF_Field.tab1 field_GF_Field.bits1 (fun HT_ HW_ => ?_)
  generalize w4.drew = w5 at BKr HB BKg hHeld ⊢
  refine pure_ (i := 0) (N := some 3) (v := ?_) (a' := ?_) #[true, false, false, false, false, false, false, false, false, false, false, false, false, false, false, false, false, false, false] rfl rfl (any_of HT_.out (by kernel_rfl)) (fun _ _ _ h => h) (Or.inl ⟨by rfl, ?_⟩) ?_ ?_
  rotate_left
  · intro w'
    go_simp
    with_reducible rfl
  rotate_left
  · simp only [Act.put, List.setIfInBounds_toArray, List.set_cons_zero, List.set_cons_succ, i64_w, i32_w]
    rfl
  refine pure_ (i := 1) (N := some 4) (v := ?_) (a' := ?_) #[true, true, false, false, false, false, false, false, false, false, false, false, false, false, false, false, false, false, false] rfl rfl (any_of HT_.out (by kernel_rfl)) (fun _ _ _ h => h) (Or.inl ⟨by rfl, ?_⟩) ?_ ?_
  rotate_left
  · intro w'
    go_simp
    with_reducible rfl
  rotate_left
  · simp only [Act.put, List.setIfInBounds_toArray, List.set_cons_zero, List.set_cons_succ, i64_w, i32_w]
    rfl
  refine pure_ (i := 2) (N := some 5) (v := ?_) (a' := ?_) #[true, true, true, false, false, false, false, false, false, false, false, false, false, false, false, false, false, false, false] rfl rfl (any_of HT_.out (by kernel_rfl)) (fun _ _ _ h => h) (Or.inl ⟨by rfl, ?_⟩) ?_ ?_
  rotate_left
  · intro w'
    go_simp
    with_reducible rfl
  rotate_left
  · simp only [Act.put, List.setIfInBounds_toArray, List.set_cons_zero, List.set_cons_succ, i64_w, i32_w]
    rfl
  refine pure_ (i := 3) (N := some 6) (v := ?_) (a' := ?_) #[true, true, true, true, false, false, false, false, false, false, false, false, false, false, false, false, false, false, false] rfl rfl (any_of HT_.out (by kernel_rfl)) (fun _ _ _ h => h) (Or.inl ⟨by rfl, ?_⟩) ?_ ?_
  rotate_left
  · intro w'
    go_simp
    with_reducible rfl
  rotate_left
  · simp only [Act.put, List.setIfInBounds_toArray, List.set_cons_zero, List.set_cons_succ, i64_w, i32_w]
    rfl
  refine pure_ (i := 5) (N := some 8) (v := ?_) (a' := ?_) #[true, true, true, true, false, true, false, false, false, false, false, false, false, false, false, false, false, false, false] rfl rfl (any_of HT_.out (by kernel_rfl)) (fun _ _ _ h => h) (Or.inl ⟨by rfl, ?_⟩) ?_ ?_
  rotate_left
  · intro w'
    go_simp
    with_reducible rfl
  rotate_left
  · simp only [Act.put, List.setIfInBounds_toArray, List.set_cons_zero, List.set_cons_succ, i64_w, i32_w]
    rfl
  refine pure_ (i := 6) (N := some 9) (v := ?_) (a' := ?_) #[true, true, true, true, false, true, true, false, false, false, false, false, false, false, false, false, false, false, false] rfl rfl (any_of HT_.out (by kernel_rfl)) (fun _ _ _ h => h) (Or.inl ⟨by rfl, ?_⟩) ?_ ?_
  rotate_left
  · intro w'
    go_simp
    with_reducible rfl
  rotate_left
  · simp only [Act.put, List.setIfInBounds_toArray, List.set_cons_zero, List.set_cons_succ, i64_w, i32_w]
    rfl
  refine pure_ (i := 7) (N := some 10) (v := ?_) (a' := ?_) #[true, true, true, true, false, true, true, true, false, false, false, false, false, false, false, false, false, false, false] rfl rfl (any_of HT_.out (by kernel_rfl)) (fun _ _ _ h => h) (Or.inl ⟨by rfl, ?_⟩) ?_ ?_
  rotate_left
  · intro w'
    go_simp
    with_reducible rfl
  rotate_left
  · simp only [Act.put, List.setIfInBounds_toArray, List.set_cons_zero, List.set_cons_succ, i64_w, i32_w]
    rfl
  refine pure_ (i := 8) (N := some 11) (v := ?_) (a' := ?_) #[true, true, true, true, false, true, true, true, true, false, false, false, false, false, false, false, false, false, false] rfl rfl (any_of HT_.out (by kernel_rfl)) (fun _ _ _ h => h) (Or.inl ⟨by rfl, ?_⟩) ?_ ?_
  rotate_left
  · intro w'
    go_simp
    with_reducible rfl
  rotate_left
  · simp only [Act.put, List.setIfInBounds_toArray, List.set_cons_zero, List.set_cons_succ, i64_w, i32_w]
    rfl
  refine pure_ (i := 11) (N := some 14) (v := ?_) (a' := ?_) #[true, true, true, true, false, true, true, true, true, false, false, true, false, false, false, false, false, false, false] rfl rfl (any_of HT_.out (by kernel_rfl)) (fun _ _ _ h => h) (Or.inl ⟨by rfl, ?_⟩) ?_ ?_
  rotate_left
  · intro w'
    go_simp
    with_reducible rfl
  rotate_left
  · simp only [Act.put, List.setIfInBounds_toArray, List.set_cons_zero, List.set_cons_succ, i64_w, i32_w]
    rfl
  refine pure_ (i := 12) (N := some 15) (v := ?_) (a' := ?_) #[true, true, true, true, false, true, true, true, true, false, false, true, true, false, false, false, false, false, false] rfl rfl (any_of HT_.out (by kernel_rfl)) (fun _ _ _ h => h) (Or.inl ⟨by rfl, ?_⟩) ?_ ?_
  rotate_left
  · intro w'
    go_simp
    with_reducible rfl
  rotate_left
  · simp only [Act.put, List.setIfInBounds_toArray, List.set_cons_zero, List.set_cons_succ, i64_w, i32_w]
    rfl
  refine pure_ (i := 13) (N := some 16) (v := ?_) (a' := ?_) #[true, true, true, true, false, true, true, true, true, false, false, true, true, true, false, false, false, false, false] rfl rfl (any_of HT_.out (by kernel_rfl)) (fun _ _ _ h => h) (Or.inl ⟨by rfl, ?_⟩) ?_ ?_
  rotate_left
  · intro w'
    go_simp
    with_reducible rfl
  rotate_left
  · simp only [Act.put, List.setIfInBounds_toArray, List.set_cons_zero, List.set_cons_succ, i64_w, i32_w]
    rfl
  refine pure_ (i := 14) (N := some 17) (v := ?_) (a' := ?_) #[true, true, true, true, false, true, true, true, true, false, false, true, true, true, true, false, false, false, false] rfl rfl (any_of HT_.out (by kernel_rfl)) (fun _ _ _ h => h) (Or.inl ⟨by rfl, ?_⟩) ?_ ?_
  rotate_left
  · intro w'
    go_simp
    with_reducible rfl
  rotate_left
  · simp only [Act.put, List.setIfInBounds_toArray, List.set_cons_zero, List.set_cons_succ, i64_w, i32_w]
    rfl
  refine take_ (i := 4) (N := some 7) (v := ?_) (a' := ?_) #[true, true, true, true, true, true, true, true, true, false, false, true, true, true, true, false, false, false, false] rfl rfl (take_ofW HT_.out HW_.out (by kernel_rfl)) (fun _ _ _ h => h) (Or.inl ⟨by rfl, ?_⟩) hHeld ?_ ?_
  rotate_left
  · rintro w' ⟨s0, s1, s2⟩
    go_simp
    with_reducible rfl
  rotate_left
  · simp only [Act.put, List.setIfInBounds_toArray, List.set_cons_zero, List.set_cons_succ, i64_w, i32_w]
    rfl
  refine take_ (i := 9) (N := some 12) (v := ?_) (a' := ?_) #[true, true, true, true, true, true, true, true, true, true, false, true, true, true, true, false, false, false, false] rfl rfl (take_ofW HT_.out HW_.out (by kernel_rfl)) (fun _ _ _ h => h) (Or.inl ⟨by rfl, ?_⟩) hHeld ?_ ?_
  rotate_left
  · rintro w' ⟨s0, s1, s2⟩
    go_simp
    with_reducible rfl
  rotate_left
  · simp only [Act.put, List.setIfInBounds_toArray, List.set_cons_zero, List.set_cons_succ, i64_w, i32_w]
    rfl
  refine take_ (i := 15) (N := some 18) (v := ?_) (a' := ?_) #[true, true, true, true, true, true, true, true, true, true, false, true, true, true, true, true, false, false, false] rfl rfl (take_ofW HT_.out HW_.out (by kernel_rfl)) (fun _ _ _ h => h) (Or.inl ⟨by rfl, ?_⟩) hHeld ?_ ?_
  rotate_left
  · rintro w' ⟨s0, s1, s2⟩
    go_simp
    with_reducible rfl
  rotate_left
  · simp only [Act.put, List.setIfInBounds_toArray, List.set_cons_zero, List.set_cons_succ, i64_w, i32_w]
    rfl
  refine one_ (i := 10) (N := some 13) #[true, true, true, true, true, true, true, true, true, true, true, true, true, true, true, true, false, false, false] rfl rfl (one_of HT_.out (by kernel_rfl)) (by decide) (fun K hK => ?_)
  refine Kd.R_lit_step (Kd.int .i64) (w0 := w) w.heap.size 3 (by rfl) (N := 13) ?hd (xs := ([] : List Int)) (inner := []) (ok := fun _ => True) (okp := fun _ => True) ?hr ?hp (fun _ hk => hk) trivial HB.out (bZ HB.out) (by simp) ?_
  case hd => rfl
  case hr => first | (go_simp; done) | (go_simp; rfl)
  case hp => exact Reps.none _ _
  intro vm wm ho hb hg hnew
  have nb_ := Aside0.mk (blk_grown (g := b_a0) BKg.out hg (by simp))
  have nr_ := Aside0.mk (blk_grown (g := gr) BKr.out hg (by simp))
  clear HB BKg BKr
  have HB := Aside0.mk hb
  have HOm := Aside0.mk ho
  have BKg := nb_
  have BKr := nr_
  clear nb_ nr_ hb ho hg hnew
  refine hK.out _ _ ⟨(kC BKg.out 0).trans rfl, (kC BKg.out 1).trans rfl, (kC BKg.out 2).trans rfl⟩ (fun hHeld => ?_)
  clear hK K
  refine norm_ (a' := ?_) ?_ ?_
  rotate_left
  · show Act.put _ (some 13) _ = _
    simp only [Act.put, List.setIfInBounds_toArray, List.set_cons_zero, List.set_cons_succ, i64_w, i32_w]
    rfl
  refine one_ (i := 16) (N := some 19) #[true, true, true, true, true, true, true, true, true, true, true, true, true, true, true, true, true, false, false] rfl rfl (one_of HT_.out (by kernel_rfl)) (by decide) (fun K hK => ?_)
  refine Kd.R_append_rows_step (Kd.int .i64) (w0 := w) w.heap.size (by rfl) (.tmp 13) (.tmp 18) 22 3 (.int .i64 0) 8 rfl Try.underlying22 info3 rfl (by decide) (by omega) vm ([] : List Int) a0.mod A2 a0.mod.length c2 (fun _ => True) (fun _ => False) rfl rfl ?aO ?aR (fun _ _ h => h) (fun _ h => h.elim) ?aF ?aB ?aS ?aL ?_
  case aR => exact Kd.C_below HR2.out HB.out
  case aB => exact HB.out
  case aF => exact (fun _ _ => trivial)
  case aO => exact HOm.out
  case aS => exact bZ HB.out
  case aL => have := HL.out; simp; omega
  intro vn wn ho hb hg hat
  have nb_ := Aside0.mk (blk_grown (g := b_a0) BKg.out hg (Kd.R_ne HOm.out BKg.out (by decide)))
  have nr_ := Aside0.mk (blk_grown (g := gr) BKr.out hg (Kd.R_ne HOm.out BKr.out (by decide)))
  clear HB BKg BKr HOm
  have HB := Aside0.mk hb
  have HOm := Aside0.mk ho
  have BKg := nb_
  have BKr := nr_
  clear nb_ nr_ hb ho hg hat
  rw [List.nil_append] at HOm
  obtain ⟨An, cn, rfl⟩ := Kd.R_slice HOm.out
  refine hK.out _ _ ⟨(kC BKg.out 0).trans rfl, (kC BKg.out 1).trans rfl, (kC BKg.out 2).trans rfl⟩ (fun hHeld => ?_)
  clear hK K
  refine norm_ (a' := ?_) ?_ ?_
  rotate_left
  · show Act.put _ (some 19) _ = _
    simp only [Act.put, List.setIfInBounds_toArray, List.set_cons_zero, List.set_cons_succ, i64_w, i32_w]
    rfl
  refine pure_ (i := 17) (N := some 20) (v := ?_) (a' := ?_) #[true, true, true, true, true, true, true, true, true, true, true, true, true, true, true, true, true, true, false] rfl rfl (any_of HT_.out (by kernel_rfl)) (fun _ _ _ h => h) (Or.inl ⟨by rfl, ?_⟩) ?_ ?_
  rotate_left
  · intro w'
    go_simp
    with_reducible rfl
  rotate_left
  · simp only [Act.put, List.setIfInBounds_toArray, List.set_cons_zero, List.set_cons_succ, i64_w, i32_w]
    rfl
  refine last_ (i := 18) (N := none) #[true, true, true, true, true, true, true, true, true, true, true, true, true, true, true, true, true, true, true] rfl rfl (one_of HT_.out (by kernel_rfl)) (by decide) (fun K hK => ?_)
  have hcr0 : wn.cell? ⟨gr, 0, none⟩ = some (.int .i64 0) := (kC BKr.out 0).trans rfl
  have hcr1 : wn.cell? ⟨gr, 1, none⟩ = some (.int .i64 0) := (kC BKr.out 1).trans rfl
  have hcr2 : wn.cell? ⟨gr, 2, none⟩ = some (.slice none 0 0) := (kC BKr.out 2).trans rfl
  have hfr0 := kF BKr.out 0
  have hfr1 := kF BKr.out 1
  have hfr2 := kF BKr.out 2
  refine skip_ (w1 := ?_) (by rfl) rfl ?_ ?_
  rotate_left
  · go_simp
    rfl
  refine hK.out _ _ ?_
  clear hK K
  refine done_ (done_of HT_.out (by kernel_rfl)) ?_
  go_wp2
  refine bodyPost_ret (results_c rfl _ _ gr 24 #[.int .i64 (a0.F.p : Int), .int .i64 (a0.F.m : Int), .slice An a0.mod.length cn] (0, 0) _ rfl (by (with_reducible repeat (first | refine kN ?_ _ | refine kD ?_ | refine kA ?_ _)); refine blk_put (cs := #[.int .i64 (a0.F.p : Int), .int .i64 (a0.F.m : Int), .slice none 0 0]) ?_ 2 _ rfl; (with_reducible repeat (first | refine kN ?_ _ | refine kD ?_ | refine kA ?_ _)); refine blk_put (cs := #[.int .i64 (a0.F.p : Int), .int .i64 0, .slice none 0 0]) ?_ 1 _ rfl; (with_reducible repeat (first | refine kN ?_ _ | refine kD ?_ | refine kA ?_ _)); refine blk_put (cs := #[.int .i64 0, .int .i64 0, .slice none 0 0]) ?_ 0 _ rfl; (with_reducible repeat (first | refine kN ?_ _ | refine kD ?_ | refine kA ?_ _)); exact BKr.out) Try.underlying24 rfl (by kernel_rfl)) rfl ?_
  exact ⟨_, rfl, by (with_reducible repeat (first | apply Kd.R_alloc | apply Kd.R_drewN | apply Kd.R_drew)); exact Kd.R_mono (Kd.R_far (p := ⟨gr, 2, none⟩) (Kd.R_far (p := ⟨gr, 1, none⟩) (Kd.R_far (p := ⟨gr, 0, none⟩) (Kd.R_types HOm.out BKr.out (by decide)) (fun _ hk => hk.2) _) (fun _ hk => hk.2) _) (fun _ hk => hk.2) _) (fun _ hk => trivial), (by repeat (first | (with_reducible first | exact HB.out | apply bA | apply bN | apply bD | refine bS ?_ GEr.out) | exact HB.out))⟩
end
end Go.Proofs.Ytoambdpchjeklaa.Hand
end
-- Pa5
section
namespace Go.Proofs.Ytoambdpchjeklaa.P
noncomputable section
open Go.RowKit Go.Proofs.Ytoambdpchjeklaa.Hand Go.Proofs.YtoambdpchjeklaaW.PrintWords Go.Proofs.YtoambdpchjeklaaW.PrintLast Go.Proofs.YtoambdpchjeklaaW.PrintMore
set_option linter.unusedVariables false
set_option linter.unusedSimpArgs false
def codewrightref04_Value.l0 : Nat → List Int → Int → Int → Int → Int → List Int → Option (Int)
 | 0, _, _, _, _, _, _ => none
 | k + 1, x1, x5, x6, x195000, x195001, x195002 => if x6 ≥ 0 then (if 0 ≤ x6 then (if x6 < (x1.length : Int) then (codewrightref04_Value.l0 k x1 (wrap64 ((wrap64 (x5 * x195000)) + (rd x1 x6))) (wrap64 (x6 - 1)) x195000 x195001 x195002) else (none)) else (none)) else (some x5)
def codewrightref04_Value.f (k : Nat) (a0_0 : Int) (a0_1 : Int) (l0_2 : List Int) (l1 : List Int) : Option (Int) := codewrightref04_Value.l0 k l1 0 (wrap64 ((l1.length : Int) - 1)) a0_0 a0_1 l0_2
set_option maxHeartbeats 8000000 in
set_option maxRecDepth 100000 in
theorem codewrightref04_Value.calls (k : Nat) (a0_0 : Int) (a0_1 : Int) (A0_2 : Option Addr) (c0_2 : Nat) (l0_2 : List Int) (A1 : Option Addr) (c1 : Nat) (l1 : List Int) (r : Int) (w : World) (hr0_2 : Kd.C (Kd.int .i64) w A0_2 l0_2.length l0_2) (hc0_2 : l0_2.length ≤ c0_2) (hr1 : Kd.C (Kd.int .i64) w A1 l1.length l1) (hc1 : l1.length ≤ c1) (h : codewrightref04_Value.f k a0_0 a0_1 l0_2 l1 = some r) :
  Calls Try.prog 44 #[.agg #[.int .i64 a0_0, .int .i64 a0_1, .slice A0_2 l0_2.length c0_2], .slice A1 l1.length c1] w fun e w' => e = .returned (.int .i64 r) ∧ Below w.heap.size w w' := by
 have hu24 := Try.underlying24
 have HR0_2 := Aside0.mk hr0_2
 have HC0_2 := Aside0.mk hc0_2
 clear hr0_2 hc0_2
 have HR1 := Aside0.mk hr1
 have HC1 := Aside0.mk hc1
 clear hr1 hc1
 have HB := Aside0.mk (Below.refl w.heap.size w)
 have H : (codewrightref04_Value.l0 k l1 0 (wrap64 ((l1.length : Int) - 1)) a0_0 a0_1 l0_2) = some r := h
 clear h
 have H' := Aside0.mk H
 clear H
 go_enter Try.func44, Try.ntmps44
 go_wp2_with (first | ((with_reducible refine gate_dst (N := 2) rfl ?_); refine box_event ?hg (N := 2) ?hd (cs := #[.int .i64 a0_0, .int .i64 a0_1, .slice A0_2 l0_2.length c0_2]) (t := 24) ?hr ?_; (case hd => rfl); (case hg => rfl); (case hr => first | (go_simp; done) | (go_simp; rfl)); intro gb194 hg w3 hbox hb; have n0_ := Aside0.mk (bP (by repeat (first | (with_reducible first | exact HB.out | apply bA | apply bN | apply bD) | exact HB.out)) hb); have n1_ := Aside0.mk (hbox); have n2_ := Aside0.mk ((by rw [hg]; exact (bZ (by repeat (first | (with_reducible first | exact HB.out | apply bA | apply bN | apply bD) | exact HB.out))) : w.heap.size ≤ gb194)); have n3_ := Aside0.mk ((by rw [hg]; exact (bZ (by repeat (first | (with_reducible first | exact HB.out | apply bA | apply bN | apply bD) | exact HB.out))) : w.heap.size ≤ gb194)); clear HB; have HB := n0_; have BK194 := n1_; have GW194 := n2_; have GE194 := n3_; clear n0_ n1_ n2_ n3_; clear hb hbox hg))
 repeat (go_quiet (first | ((with_reducible refine gate_dst (N := 2) rfl ?_); refine box_event ?hg (N := 2) ?hd (cs := #[.int .i64 a0_0, .int .i64 a0_1, .slice A0_2 l0_2.length c0_2]) (t := 24) ?hr ?_; (case hd => rfl); (case hg => rfl); (case hr => first | (go_simp; done) | (go_simp; rfl)); intro gb194 hg w3 hbox hb; have n0_ := Aside0.mk (bP (by repeat (first | (with_reducible first | exact HB.out | apply bA | apply bN | apply bD) | exact HB.out)) hb); have n1_ := Aside0.mk (hbox); have n2_ := Aside0.mk ((by rw [hg]; exact (bZ (by repeat (first | (with_reducible first | exact HB.out | apply bA | apply bN | apply bD) | exact HB.out))) : w.heap.size ≤ gb194)); have n3_ := Aside0.mk ((by rw [hg]; exact (bZ (by repeat (first | (with_reducible first | exact HB.out | apply bA | apply bN | apply bD) | exact HB.out))) : w.heap.size ≤ gb194)); clear HB; have HB := n0_; have BK194 := n1_; have GW194 := n2_; have GE194 := n3_; clear n0_ n1_ n2_ n3_; clear hb hbox hg)); try go_wp2_with (first | ((with_reducible refine gate_dst (N := 2) rfl ?_); refine box_event ?hg (N := 2) ?hd (cs := #[.int .i64 a0_0, .int .i64 a0_1, .slice A0_2 l0_2.length c0_2]) (t := 24) ?hr ?_; (case hd => rfl); (case hg => rfl); (case hr => first | (go_simp; done) | (go_simp; rfl)); intro gb194 hg w3 hbox hb; have n0_ := Aside0.mk (bP (by repeat (first | (with_reducible first | exact HB.out | apply bA | apply bN | apply bD) | exact HB.out)) hb); have n1_ := Aside0.mk (hbox); have n2_ := Aside0.mk ((by rw [hg]; exact (bZ (by repeat (first | (with_reducible first | exact HB.out | apply bA | apply bN | apply bD) | exact HB.out))) : w.heap.size ≤ gb194)); have n3_ := Aside0.mk ((by rw [hg]; exact (bZ (by repeat (first | (with_reducible first | exact HB.out | apply bA | apply bN | apply bD) | exact HB.out))) : w.heap.size ≤ gb194)); clear HB; have HB := n0_; have BK194 := n1_; have GW194 := n2_; have GE194 := n3_; clear n0_ n1_ n2_ n3_; clear hb hbox hg)))
 go_loopg [5, 6] k (fun kq v5 v6 w' => ∃ (x5_1 : Int) (x6_1 : Int), v5 = .int .i64 x5_1 ∧ v6 = .int .i64 x6_1 ∧ Aside0 (codewrightref04_Value.l0 kq l1 x5_1 x6_1 a0_0 a0_1 l0_2 = some r) ∧ Aside0 (kq ≤ k) ∧ Aside0 (w'.heap[gb194]? = some (.cells #[.int .i64 a0_0, .int .i64 a0_1, (.slice A0_2 l0_2.length c0_2)] 24 (0, 0))) ∧ Aside0 (Below w.heap.size w w'))
 case atStart => exact ⟨(0), (wrap64 ((l1.length : Int) - 1)), (by first | rfl | (simp; done) | (simp [*]; done)), (by first | rfl | (simp; done) | (simp [*]; done)), H', ⟨Nat.le_refl _⟩, ⟨by (with_reducible repeat (first | refine kN ?_ _ | refine kD ?_ | refine kA ?_ _)); exact BK194.out⟩, ⟨by repeat (first | (with_reducible first | exact HB.out | apply bA | apply bN | apply bD | refine bS ?_ GE194.out) | exact HB.out)⟩⟩
 case round =>
  clear H'
  try clear c1
  try clear p2
  obtain ⟨x5_1, x6_1, rfl, rfl, HA, HK1, BK194, HB⟩ := hrel
  cases gk with
  | zero => exact absurd HA.out (by simp [codewrightref04_Value.l0])
  | succ k1 =>
   have H := HA.out
   clear HA
   simp only [codewrightref04_Value.l0] at H
   by_cases c4 : x6_1 ≥ 0
   ·rw [if_pos c4] at H
    have c4b0 : decide (0 ≤ x6_1) = true := decide_eq_true c4
    clear c4
    by_cases c5 : 0 ≤ x6_1
    ·rw [if_pos c5] at H
     have c5b0 : decide (0 ≤ x6_1) = true := decide_eq_true c5
     clear c5
     by_cases c6 : x6_1 < (l1.length : Int)
     ·rw [if_pos c6] at H
      have c6b0 : decide (x6_1 < (l1.length : Int)) = true := decide_eq_true c6
      clear c6
      have H' := Aside0.mk H
      clear H
      have hcz7_0 : wr.cell? ⟨gb194, 0, none⟩ = some (.int .i64 a0_0) := (kC BK194.out 0).trans rfl
      have hcz7_1 : wr.cell? ⟨gb194, 1, none⟩ = some (.int .i64 a0_1) := (kC BK194.out 1).trans rfl
      have hcz7_2 : wr.cell? ⟨gb194, 2, none⟩ = some (.slice A0_2 l0_2.length c0_2) := (kC BK194.out 2).trans rfl
      have hfz7_0 := kF BK194.out 0
      have hfz7_1 := kF BK194.out 1
      have hfz7_2 := kF BK194.out 2
      have p195 : 0 ≤ (x6_1 : Int) := of_decide_eq_true (by first | (with_reducible assumption) | assumption)
      have q195 : x6_1 < (l1.length : Int) := of_decide_eq_true (by first | (with_reducible assumption) | assumption)
      obtain ⟨ad195, e195, hx195_0⟩ := Kd.at_int HR1.out x6_1 p195 q195
      cases e195
      replace hx195_0 := (HB.out.cell (World.block_lt_of_cell? w _ hx195_0)).trans hx195_0
      replace p195 := eq_true p195
      replace q195 := eq_true q195
      go_wp2
      repeat (go_quiet (fail); try go_wp2)
      go_roundg k1
      case measure => have := HK1.out; omega
      case rel => exact ⟨(wrap64 ((wrap64 (x5_1 * a0_0)) + (rd l1 x6_1))), (wrap64 (x6_1 - 1)), (by first | rfl | (simp; done) | (simp [*]; done)), (by first | rfl | (simp; done) | (simp [*]; done)), H', ⟨by have := HK1.out; omega⟩, ⟨by (with_reducible repeat (first | refine kN ?_ _ | refine kD ?_ | refine kA ?_ _)); exact BK194.out⟩, ⟨by repeat (first | (with_reducible first | exact HB.out | apply bA | apply bN | apply bD | refine bS ?_ GE194.out) | exact HB.out)⟩⟩
     ·rw [if_neg c6] at H
      exact absurd H (by simp)
    ·rw [if_neg c5] at H
     exact absurd H (by simp)
   ·rw [if_neg c4] at H
    have c4b0 : decide (0 ≤ x6_1) = false := decide_eq_false c4
    clear c4
    obtain rfl := Option.some.inj H
    go_wp2
    repeat (go_quiet (fail); try go_wp2)
    go_ret
    exact ⟨by first | rfl | (simp [eN, eS] <;> rfl) | (simp [*, eN, eS] <;> rfl), by repeat (first | (with_reducible first | exact HB.out | apply bA | apply bN | apply bD | refine bS ?_ GE194.out) | exact HB.out)⟩
end
end Go.Proofs.Ytoambdpchjeklaa.P
end
-- Pa6
section
namespace Go.Proofs.Ytoambdpchjeklaa.P
noncomputable section
open Go.RowKit Go.Proofs.Ytoambdpchjeklaa.Hand Go.Proofs.YtoambdpchjeklaaW.PrintWords Go.Proofs.YtoambdpchjeklaaW.PrintLast Go.Proofs.YtoambdpchjeklaaW.PrintMore
set_option linter.unusedVariables false
set_option linter.unusedSimpArgs false
mutual
def codewrightref04_Mul.l0 : Nat → List Int → List Int → List Int → Int → Int → Int → List Int → Option (Int)
 | 0, _, _, _, _, _, _, _ => none
 | k + 1, x7, x8, x9, x10, x197000, x197001, x197002 => if x10 < x197001 then (codewrightref04_Mul.l1 k x7 x8 x9 x10 0 x197000 x197001 x197002) else (codewrightref04_Mul.l2 k x9 (wrap64 ((wrap64 (2 * x197001)) - 2)) x197000 x197001 x197002)
def codewrightref04_Mul.l1 : Nat → List Int → List Int → List Int → Int → Int → Int → Int → List Int → Option (Int)
 | 0, _, _, _, _, _, _, _, _ => none
 | k + 1, x7, x8, x9, x10, x11, x197000, x197001, x197002 => if x11 < x197001 then (if 0 ≤ (wrap64 (x10 + x11)) then (if (wrap64 (x10 + x11)) < (x9.length : Int) then (if 0 ≤ x10 then (if x10 < (x7.length : Int) then (if 0 ≤ x11 then (if x11 < (x8.length : Int) then (if x197000 = 0 then (none) else (codewrightref04_Mul.l1 k x7 x8 (x9.set ((wrap64 (x10 + x11)) : Int).toNat (Int.tmod (wrap64 ((rd x9 (wrap64 (x10 + x11))) + (wrap64 ((rd x7 x10) * (rd x8 x11))))) x197000)) x10 (wrap64 (x11 + 1)) x197000 x197001 x197002)) else (none)) else (none)) else (none)) else (none)) else (none)) else (none)) else (codewrightref04_Mul.l0 k x7 x8 x9 (wrap64 (x10 + 1)) x197000 x197001 x197002)
def codewrightref04_Mul.l2 : Nat → List Int → Int → Int → Int → List Int → Option (Int)
 | 0, _, _, _, _, _ => none
 | k + 1, x9, x12, x197000, x197001, x197002 => if x12 ≥ x197001 then (codewrightref04_Mul.l3 k x9 x12 0 x197000 x197001 x197002) else (if 0 ≤ x197001 then (if x197001 ≤ (x9.length : Int) then ((codewrightref04_Value.f k x197000 x197001 x197002 (x9.take (x197001 : Int).toNat)).bind fun t214 => (some t214)) else (none)) else (none))
def codewrightref04_Mul.l3 : Nat → List Int → Int → Int → Int → Int → List Int → Option (Int)
 | 0, _, _, _, _, _, _ => none
 | k + 1, x9, x12, x13, x197000, x197001, x197002 => if x13 < x197001 then (if 0 ≤ (wrap64 ((wrap64 (x12 - x197001)) + x13)) then (if (wrap64 ((wrap64 (x12 - x197001)) + x13)) < (x9.length : Int) then (if 0 ≤ x12 then (if x12 < (x9.length : Int) then (if 0 ≤ x13 then (if x13 < (x197002.length : Int) then (if x197000 = 0 then (none) else (codewrightref04_Mul.l3 k (x9.set ((wrap64 ((wrap64 (x12 - x197001)) + x13)) : Int).toNat (Int.tmod (wrap64 ((rd x9 (wrap64 ((wrap64 (x12 - x197001)) + x13))) + (wrap64 ((wrap64 (x197000 - (rd x9 x12))) * (rd x197002 x13))))) x197000)) x12 (wrap64 (x13 + 1)) x197000 x197001 x197002)) else (none)) else (none)) else (none)) else (none)) else (none)) else (none)) else (codewrightref04_Mul.l2 k x9 (wrap64 (x12 - 1)) x197000 x197001 x197002)
end
def codewrightref04_Mul.f (k : Nat) (a0_0 : Int) (a0_1 : Int) (l0_2 : List Int) (a1 : Int) (a2 : Int) : Option (Int) := (codewrightref04_Digits.f k a0_0 a0_1 l0_2 a1).bind fun t197 => ((codewrightref04_Digits.f k a0_0 a0_1 l0_2 a2).bind fun t200 => (if 0 ≤ (wrap64 ((wrap64 (2 * a0_1)) - 1)) then (if (wrap64 ((wrap64 (2 * a0_1)) - 1) : Int).toNat ≤ 35184372088832 then (codewrightref04_Mul.l0 k t197 t200 (List.replicate (wrap64 ((wrap64 (2 * a0_1)) - 1) : Int).toNat 0) 0 a0_0 a0_1 l0_2) else (none)) else (none)))
def codewrightref04_Mul.T10 : Bool × List (List Nat × List Nat) := (true, [([], []), ([], []), ([], []), ([1, 2], [1, 2]), ([], []), ([], []), ([], []), ([5, 6], [5, 6]), ([4, 7], [4, 7]), ([8], [8]), ([], []), ([], []), ([10, 11], [10, 11]), ([12], [12]), ([], []), ([], []), ([14, 15], [14, 15]), ([16], [16]), ([13, 17], [13, 17]), ([9, 18], [9, 18]), ([], []), ([20], [20]), ([19, 21], [19, 21]), ([0, 3, 0, 1, 2, 3, 4, 5, 6, 7, 8, 9, 10, 11, 12, 13, 14, 15, 16, 17, 18, 19, 20, 21, 22], [0, 3]), ([23, 22, 0, 1, 2, 3, 4, 5, 6, 7, 8, 9, 10, 11, 12, 13, 14, 15, 16, 17, 18, 19, 20, 21, 22], [22, 23])])
def codewrightref04_Mul.B10 : List Nat := [0, 0, 0, 6, 0, 0, 0, 96, 240, 496, 0, 0, 3072, 7168, 0, 0, 49152, 114688, 261120, 524272, 0, 1048576, 4194288, 8388607, 16777215]
theorem codewrightref04_Mul.tab10 : rtab .any (opsOf Try.f18 10) = codewrightref04_Mul.T10 := by kernel_rfl
theorem codewrightref04_Mul.bits10 : waitsOk codewrightref04_Mul.T10.2 codewrightref04_Mul.B10 = true := by kernel_rfl
def codewrightref04_Mul.T17 : Bool × List (List Nat × List Nat) := (true, [([], []), ([], []), ([], []), ([2], [2]), ([1, 3], [1, 3]), ([], []), ([4, 5], [4, 5]), ([], []), ([], []), ([], []), ([9], [9]), ([8, 10], [8, 10]), ([], []), ([11, 12], [11, 12]), ([7, 13], [7, 13]), ([14], [14]), ([], []), ([16], [16]), ([], []), ([], []), ([18, 19], [18, 19]), ([20], [20]), ([17, 21], [17, 21]), ([], []), ([23], [23]), ([], []), ([24, 25], [24, 25]), ([26], [26]), ([22, 27], [22, 27]), ([15, 28], [15, 28]), ([], []), ([30], [30]), ([29, 31], [29, 31]), ([0, 6, 0, 1, 2, 3, 4, 5, 6, 7, 8, 9, 10, 11, 12, 13, 14, 15, 16, 17, 18, 19, 20, 21, 22, 23, 24, 25, 26, 27, 28, 29, 30, 31, 32], [0, 6]), ([33, 32, 0, 1, 2, 3, 4, 5, 6, 7, 8, 9, 10, 11, 12, 13, 14, 15, 16, 17, 18, 19, 20, 21, 22, 23, 24, 25, 26, 27, 28, 29, 30, 31, 32], [32, 33])])
def codewrightref04_Mul.B17 : List Nat := [0, 0, 0, 4, 14, 0, 62, 0, 0, 0, 512, 1792, 0, 7936, 16256, 32640, 0, 65536, 0, 0, 786432, 1835008, 4128768, 0, 8388608, 0, 58720256, 125829120, 268369920, 536870784, 0, 1073741824, 4294967168, 8589934591, 17179869183]
theorem codewrightref04_Mul.tab17 : rtab .any (opsOf Try.f18 17) = codewrightref04_Mul.T17 := by kernel_rfl
theorem codewrightref04_Mul.bits17 : waitsOk codewrightref04_Mul.T17.2 codewrightref04_Mul.B17 = true := by kernel_rfl
set_option maxHeartbeats 8000000 in
set_option maxRecDepth 100000 in
theorem codewrightref04_Mul.calls (k : Nat) (a0_0 : Int) (a0_1 : Int) (A0_2 : Option Addr) (c0_2 : Nat) (l0_2 : List Int) (a1 : Int) (a2 : Int) (r : Int) (w : World) (hr0_2 : Kd.C (Kd.int .i64) w A0_2 l0_2.length l0_2) (hc0_2 : l0_2.length ≤ c0_2) (h : codewrightref04_Mul.f k a0_0 a0_1 l0_2 a1 a2 = some r) :
  Calls Try.prog 18 #[.agg #[.int .i64 a0_0, .int .i64 a0_1, .slice A0_2 l0_2.length c0_2], .int .i64 a1, .int .i64 a2] w fun e w' => e = .returned (.int .i64 r) ∧ Below w.heap.size w w' := by
 have hu24 := Try.underlying24
 have HR0_2 := Aside0.mk hr0_2
 have HC0_2 := Aside0.mk hc0_2
 clear hr0_2 hc0_2
 have HB := Aside0.mk (Below.refl w.heap.size w)
 have H : ((codewrightref04_Digits.f k a0_0 a0_1 l0_2 a1).bind fun t197 => ((codewrightref04_Digits.f k a0_0 a0_1 l0_2 a2).bind fun t200 => (if 0 ≤ (wrap64 ((wrap64 (2 * a0_1)) - 1)) then (if (wrap64 ((wrap64 (2 * a0_1)) - 1) : Int).toNat ≤ 35184372088832 then (codewrightref04_Mul.l0 k t197 t200 (List.replicate (wrap64 ((wrap64 (2 * a0_1)) - 1) : Int).toNat 0) 0 a0_0 a0_1 l0_2) else (none)) else (none)))) = some r := h
 clear h
 replace H := Option.bind_eq_some_iff.mp H
 obtain ⟨t197, A40, H⟩ := H
 replace H : ((codewrightref04_Digits.f k a0_0 a0_1 l0_2 a2).bind fun t200 => (if 0 ≤ (wrap64 ((wrap64 (2 * a0_1)) - 1)) then (if (wrap64 ((wrap64 (2 * a0_1)) - 1) : Int).toNat ≤ 35184372088832 then (codewrightref04_Mul.l0 k t197 t200 (List.replicate (wrap64 ((wrap64 (2 * a0_1)) - 1) : Int).toNat 0) 0 a0_0 a0_1 l0_2) else (none)) else (none))) = some r := H
 have A4 := Aside0.mk A40
 clear A40
 replace H := Option.bind_eq_some_iff.mp H
 obtain ⟨t200, A50, H⟩ := H
 replace H : (if 0 ≤ (wrap64 ((wrap64 (2 * a0_1)) - 1)) then (if (wrap64 ((wrap64 (2 * a0_1)) - 1) : Int).toNat ≤ 35184372088832 then (codewrightref04_Mul.l0 k t197 t200 (List.replicate (wrap64 ((wrap64 (2 * a0_1)) - 1) : Int).toNat 0) 0 a0_0 a0_1 l0_2) else (none)) else (none)) = some r := H
 have A5 := Aside0.mk A50
 clear A50
 obtain ⟨ji6, hji6⟩ : ∃ j_ : Int, (wrap64 ((wrap64 (2 * a0_1)) - 1)) = j_ := ⟨_, rfl⟩
 replace H : (if 0 ≤ (ji6) then (if (ji6 : Int).toNat ≤ 35184372088832 then (codewrightref04_Mul.l0 k t197 t200 (List.replicate (ji6 : Int).toNat 0) 0 a0_0 a0_1 l0_2) else (none)) else (none)) = some r := by first | (rw [hji6] at H; exact H) | (simp only [hji6] at H ⊢; exact H)
 (try rw [hji6] at A4)
 (try rw [hji6] at A5)
 have hji6w : (IntKind.i64.wrap ((wrap64 (2 * a0_1)) - 1)) = ji6 := (i64_w _).trans hji6
 by_cases c7 : 0 ≤ (ji6)
 ·rw [if_pos c7] at H
  have c7b0 := eq_true c7
  have c7b1 : decide (0 ≤ (ji6)) = true := decide_eq_true c7
  clear c7
  by_cases c8 : (ji6 : Int).toNat ≤ 35184372088832
  ·rw [if_pos c8] at H
   have c8b0 := eq_true c8
   have c8b1 : decide ((ji6 : Int).toNat ≤ 35184372088832) = true := decide_eq_true c8
   clear c8
   obtain ⟨y203, hy203⟩ : ∃ y_ : List Int, y_ = (List.replicate (ji6 : Int).toNat 0) := ⟨_, rfl⟩
   replace H : (codewrightref04_Mul.l0 k t197 t200 y203 0 a0_0 a0_1 l0_2) = some r := by first | (rw [hy203]; with_reducible exact H) | (have H2_ := (Option.bind_some _ _).symm.trans H; rw [hy203]; with_reducible exact H2_) | (have H2_ := (Option.bind_some _ _).symm.trans H; with_reducible exact H2_) | with_reducible exact H | (rw [hy203]; exact H) | exact H
   have Ny203 := Aside0.mk hy203
   clear hy203
   have H' := Aside0.mk H
   clear H
   go_enter Try.func18, Try.ntmps18
   go_wp2_with (first | ((with_reducible refine gate_dst (N := 3) rfl ?_); refine box_event ?hg (N := 3) ?hd (cs := #[.int .i64 a0_0, .int .i64 a0_1, .slice A0_2 l0_2.length c0_2]) (t := 24) ?hr ?_; (case hd => rfl); (case hg => rfl); (case hr => first | (go_simp; done) | (go_simp; rfl)); intro gb196 hg w9 hbox hb; have n0_ := Aside0.mk (bP (by repeat (first | (with_reducible first | exact HB.out | apply bA | apply bN | apply bD) | exact HB.out)) hb); have n1_ := Aside0.mk (hbox); have n2_ := Aside0.mk ((by rw [hg]; exact (bZ (by repeat (first | (with_reducible first | exact HB.out | apply bA | apply bN | apply bD) | exact HB.out))) : w.heap.size ≤ gb196)); have n3_ := Aside0.mk ((by rw [hg]; exact (bZ (by repeat (first | (with_reducible first | exact HB.out | apply bA | apply bN | apply bD) | exact HB.out))) : w.heap.size ≤ gb196)); clear HB; have HB := n0_; have BK196 := n1_; have GW196 := n2_; have GE196 := n3_; clear n0_ n1_ n2_ n3_; clear hb hbox hg; have hcz10_0 : w9.cell? ⟨gb196, 0, none⟩ = some (.int .i64 a0_0) := (kC BK196.out 0).trans rfl; have hcz10_1 : w9.cell? ⟨gb196, 1, none⟩ = some (.int .i64 a0_1) := (kC BK196.out 1).trans rfl; have hcz10_2 : w9.cell? ⟨gb196, 2, none⟩ = some (.slice A0_2 l0_2.length c0_2) := (kC BK196.out 2).trans rfl; have hfz10_0 := kF BK196.out 0; have hfz10_1 := kF BK196.out 1; have hfz10_2 := kF BK196.out 2) | ((with_reducible refine gate_callee (f := 43) rfl ?_); refine goesL_ (some 16) rfl rfl Try.func43 (by kernel_rfl) rfl #[.agg #[.int .i64 a0_0, .int .i64 a0_1, .slice A0_2 l0_2.length c0_2], .int .i64 a1] rfl (by (try simp only [List.map_toArray, List.map_cons, List.map_nil]); first | done | rfl | (simp only [List.length_drop, List.length_take]; rfl)) ?_; (with_reducible refine (codewrightref04_Digits.calls k a0_0 a0_1 _ _ l0_2 a1 t197 _ ?side1 ?side2 A4.out).mono ?_); (case side1 => repeat (first | exact (Kd.C_below HR0_2.out HB.out) | (with_reducible refine Kd.C_alloc ?_ _) | (with_reducible refine Kd.C_drewN ?_ _) | (with_reducible refine Kd.C_drew ?_))); (case side2 => exact HC0_2.out); rintro e w11 ⟨v198, rfl, ho0, hb⟩; refine ⟨_, rfl, ?_⟩; have n0_ := Aside0.mk (Kd.R_lower ho0 (bZ (by repeat (first | (with_reducible first | exact HB.out | apply bA | apply bN | apply bD | refine bS ?_ GE196.out) | exact HB.out)))); have n1_ := Aside0.mk (kB (g := gb196) (o := .cells #[.int .i64 a0_0, .int .i64 a0_1, .slice A0_2 l0_2.length c0_2] 24 (0, 0)) (by (with_reducible repeat (first | refine kN ?_ _ | refine kD ?_ | refine kA ?_ _)); exact BK196.out) hb); have n2_ := Aside0.mk (bP (by repeat (first | (with_reducible first | exact HB.out | apply bA | apply bN | apply bD | refine bS ?_ GE196.out) | exact HB.out)) hb); clear BK196; clear HB; have HO199 := n0_; have BK196 := n1_; have HB := n2_; clear n0_ n1_ n2_; (try clear hb); (try clear hb2); (try clear hk); (try clear hi); (try clear ho0); have hcz12_0 : w11.cell? ⟨gb196, 0, none⟩ = some (.int .i64 a0_0) := (kC BK196.out 0).trans rfl; have hcz12_1 : w11.cell? ⟨gb196, 1, none⟩ = some (.int .i64 a0_1) := (kC BK196.out 1).trans rfl; have hcz12_2 : w11.cell? ⟨gb196, 2, none⟩ = some (.slice A0_2 l0_2.length c0_2) := (kC BK196.out 2).trans rfl; have hfz12_0 := kF BK196.out 0; have hfz12_1 := kF BK196.out 1; have hfz12_2 := kF BK196.out 2) | ((with_reducible refine gate_callee (f := 43) rfl ?_); refine goesL_ (some 19) rfl rfl Try.func43 (by kernel_rfl) rfl #[.agg #[.int .i64 a0_0, .int .i64 a0_1, .slice A0_2 l0_2.length c0_2], .int .i64 a2] rfl (by (try simp only [List.map_toArray, List.map_cons, List.map_nil]); first | done | rfl | (simp only [List.length_drop, List.length_take]; rfl)) ?_; (with_reducible refine (codewrightref04_Digits.calls k a0_0 a0_1 _ _ l0_2 a2 t200 _ ?side1 ?side2 A5.out).mono ?_); (case side1 => repeat (first | exact (Kd.C_below HR0_2.out HB.out) | (with_reducible refine Kd.C_alloc ?_ _) | (with_reducible refine Kd.C_drewN ?_ _) | (with_reducible refine Kd.C_drew ?_))); (case side2 => exact HC0_2.out); rintro e w13 ⟨v201, rfl, ho0, hb⟩; refine ⟨_, rfl, ?_⟩; have n0_ := Aside0.mk (Kd.R_elder' (by (with_reducible repeat (first | apply Kd.R_alloc | apply Kd.R_drewN | apply Kd.R_drew)); exact HO199.out) (Kd.R_base ho0) hb); have n1_ := Aside0.mk (Kd.R_lower (Kd.R_new' ho0 (Kd.R_lt (by (with_reducible repeat (first | apply Kd.R_alloc | apply Kd.R_drewN | apply Kd.R_drew)); exact HO199.out))) (bZ (by repeat (first | (with_reducible first | exact HB.out | apply bA | apply bN | apply bD | refine bS ?_ GE196.out) | exact HB.out)))); have n2_ := Aside0.mk (kB (g := gb196) (o := .cells #[.int .i64 a0_0, .int .i64 a0_1, .slice A0_2 l0_2.length c0_2] 24 (0, 0)) (by (with_reducible repeat (first | refine kN ?_ _ | refine kD ?_ | refine kA ?_ _)); exact BK196.out) hb); have n3_ := Aside0.mk (bP (by repeat (first | (with_reducible first | exact HB.out | apply bA | apply bN | apply bD | refine bS ?_ GE196.out) | exact HB.out)) hb); clear HO199; clear BK196; clear HB; have HO199 := n0_; have HO202 := n1_; have BK196 := n2_; have HB := n3_; clear n0_ n1_ n2_ n3_; (try clear hb); (try clear hb2); (try clear hk); (try clear hi); (try clear ho0); have hcz14_0 : w13.cell? ⟨gb196, 0, none⟩ = some (.int .i64 a0_0) := (kC BK196.out 0).trans rfl; have hcz14_1 : w13.cell? ⟨gb196, 1, none⟩ = some (.int .i64 a0_1) := (kC BK196.out 1).trans rfl; have hcz14_2 : w13.cell? ⟨gb196, 2, none⟩ = some (.slice A0_2 l0_2.length c0_2) := (kC BK196.out 2).trans rfl; have hfz14_0 := kF BK196.out 0; have hfz14_1 := kF BK196.out 1; have hfz14_2 := kF BK196.out 2) | ((with_reducible refine gate_dst (N := 24) rfl ?_); refine Kd.R_make (Kd.int .i64) _ 3 rfl (N := 24) rfl 22 _ _ rfl ji6 rfl rfl Try.underlying22 (.int .i64 0) 8 info3 rfl (by decide) (by omega) 0 (ok := fun _ => True) (okp := fun _ => True) rfl (fun _ hk => hk) trivial (of_decide_eq_true (by first | (with_reducible assumption) | assumption)) (Nat.le_trans (Nat.mul_le_mul_right _ (of_decide_eq_true (by first | (with_reducible assumption) | assumption) : ji6.toNat ≤ 35184372088832)) (by omega)) (Below.refl _ _) (Nat.le_refl _) ?_; intro v204 w15 ho16 hb hg_ hnew_; clear hg_ hnew_; (first | rw [← Ny203.out] at ho16 | (simp only [Int.reduceToNat] at ho16; rw [← Ny203.out] at ho16)); have n0_ := Aside0.mk (Kd.R_elder' (by (with_reducible repeat (first | apply Kd.R_alloc | apply Kd.R_drewN | apply Kd.R_drew)); exact HO199.out) (Kd.R_base ho16) hb); have n1_ := Aside0.mk (Kd.R_elder' (by (with_reducible repeat (first | apply Kd.R_alloc | apply Kd.R_drewN | apply Kd.R_drew)); exact HO202.out) (Kd.R_base ho16) hb); have n2_ := Aside0.mk (Kd.R_lower (Kd.R_new' (Kd.R_new' ho16 (Kd.R_lt (by (with_reducible repeat (first | apply Kd.R_alloc | apply Kd.R_drewN | apply Kd.R_drew)); exact HO199.out))) (Kd.R_lt (by (with_reducible repeat (first | apply Kd.R_alloc | apply Kd.R_drewN | apply Kd.R_drew)); exact HO202.out))) (bZ (by repeat (first | (with_reducible first | exact HB.out | apply bA | apply bN | apply bD | refine bS ?_ GE196.out) | exact HB.out)))); have n3_ := Aside0.mk (kB (g := gb196) (o := .cells #[.int .i64 a0_0, .int .i64 a0_1, .slice A0_2 l0_2.length c0_2] 24 (0, 0)) (by (with_reducible repeat (first | refine kN ?_ _ | refine kD ?_ | refine kA ?_ _)); exact BK196.out) hb); have n4_ := Aside0.mk (bP (by repeat (first | (with_reducible first | exact HB.out | apply bA | apply bN | apply bD | refine bS ?_ GE196.out) | exact HB.out)) hb); clear HO199; clear HO202; clear BK196; clear HB; have HO199 := n0_; have HO202 := n1_; have HO205 := n2_; have BK196 := n3_; have HB := n4_; clear n0_ n1_ n2_ n3_ n4_; clear hb ho16))
   go_loopg [10] k (fun kq v10 w' => ∃ (x9_1 : List Int) (x10_1 : Int), v10 = .int .i64 x10_1 ∧ Aside0 (codewrightref04_Mul.l0 kq t197 t200 x9_1 x10_1 a0_0 a0_1 l0_2 = some r) ∧ Aside0 (kq ≤ k) ∧ Aside0 (Kd.R (Kd.int .i64) 3 w' w.heap.size (fun k_ => some k_ ≠ (v201 : Value).ownBlock ∧ some k_ ≠ (v204 : Value).ownBlock) v198 t197) ∧ Aside0 (Kd.R (Kd.int .i64) 3 w' w.heap.size (fun k_ => some k_ ≠ (v198 : Value).ownBlock ∧ some k_ ≠ (v204 : Value).ownBlock) v201 t200) ∧ Aside0 (Kd.R (Kd.int .i64) 3 w' w.heap.size (fun k_ => some k_ ≠ (v198 : Value).ownBlock ∧ some k_ ≠ (v201 : Value).ownBlock) v204 x9_1) ∧ Aside0 (w'.heap[gb196]? = some (.cells #[.int .i64 a0_0, .int .i64 a0_1, (.slice A0_2 l0_2.length c0_2)] 24 (0, 0))) ∧ Aside0 (Below w.heap.size w w'))
   case atStart => exact ⟨(y203), (0), (by first | rfl | (simp; done) | (simp [*]; done)), H', ⟨Nat.le_refl _⟩, ⟨by (with_reducible repeat (first | apply Kd.R_alloc | apply Kd.R_drewN | apply Kd.R_drew)); exact Kd.R_mono HO199.out (fun _ hk => ⟨hk.1.2, hk.2⟩)⟩, ⟨by (with_reducible repeat (first | apply Kd.R_alloc | apply Kd.R_drewN | apply Kd.R_drew)); exact Kd.R_mono HO202.out (fun _ hk => ⟨hk.1.2, hk.2⟩)⟩, ⟨by (with_reducible repeat (first | apply Kd.R_alloc | apply Kd.R_drewN | apply Kd.R_drew)); exact Kd.R_mono HO205.out (fun _ hk => ⟨hk.1.2, hk.2⟩)⟩, ⟨by (with_reducible repeat (first | refine kN ?_ _ | refine kD ?_ | refine kA ?_ _)); exact BK196.out⟩, ⟨by repeat (first | (with_reducible first | exact HB.out | apply bA | apply bN | apply bD | refine bS ?_ GE196.out) | exact HB.out)⟩⟩
   case round =>
    clear H'
    try clear c1
    try clear p2
    try clear c4
    try clear p6
    try clear c7
    try clear c7b0
    try clear c7b1
    try clear c8
    try clear c8b0
    try clear c8b1
    try clear hcz10_0
    try clear hcz10_1
    try clear hcz10_2
    try clear hcz12_0
    try clear hcz12_1
    try clear hcz12_2
    try clear hcz14_0
    try clear hcz14_1
    try clear hcz14_2
    try clear hfz10_0
    try clear hfz10_1
    try clear hfz10_2
    try clear hfz12_0
    try clear hfz12_1
    try clear hfz12_2
    try clear hfz14_0
    try clear hfz14_1
    try clear hfz14_2
    obtain ⟨x9_1, x10_1, rfl, HA, HK1, HO_7, HO_8, HO_9, BK196, HB⟩ := hrel
    cases gk with
    | zero => exact absurd HA.out (by simp [codewrightref04_Mul.l0])
    | succ k1 =>
     have H := HA.out
     clear HA
     simp only [codewrightref04_Mul.l0] at H
     by_cases c17 : x10_1 < a0_1
     ·rw [if_pos c17] at H
      have c17b0 : decide (x10_1 < a0_1) = true := decide_eq_true c17
      clear c17
      have H' := Aside0.mk H
      clear H
      have hcz18_0 : wr.cell? ⟨gb196, 0, none⟩ = some (.int .i64 a0_0) := (kC BK196.out 0).trans rfl
      have hcz18_1 : wr.cell? ⟨gb196, 1, none⟩ = some (.int .i64 a0_1) := (kC BK196.out 1).trans rfl
      have hcz18_2 : wr.cell? ⟨gb196, 2, none⟩ = some (.slice A0_2 l0_2.length c0_2) := (kC BK196.out 2).trans rfl
      have hfz18_0 := kF BK196.out 0
      have hfz18_1 := kF BK196.out 1
      have hfz18_2 := kF BK196.out 2
      go_wp2
      go_loopg [11] k1 (fun kq v11 w' => ∃ (x9_2 : List Int) (x11_2 : Int), v11 = .int .i64 x11_2 ∧ Aside0 (codewrightref04_Mul.l1 kq t197 t200 x9_2 x10_1 x11_2 a0_0 a0_1 l0_2 = some r) ∧ Aside0 (kq ≤ k1) ∧ Aside0 (Kd.R (Kd.int .i64) 3 w' w.heap.size (fun k_ => some k_ ≠ (v201 : Value).ownBlock ∧ some k_ ≠ (v204 : Value).ownBlock) v198 t197) ∧ Aside0 (Kd.R (Kd.int .i64) 3 w' w.heap.size (fun k_ => some k_ ≠ (v198 : Value).ownBlock ∧ some k_ ≠ (v204 : Value).ownBlock) v201 t200) ∧ Aside0 (Kd.R (Kd.int .i64) 3 w' w.heap.size (fun k_ => some k_ ≠ (v198 : Value).ownBlock ∧ some k_ ≠ (v201 : Value).ownBlock) v204 x9_2) ∧ Aside0 (w'.heap[gb196]? = some (.cells #[.int .i64 a0_0, .int .i64 a0_1, (.slice A0_2 l0_2.length c0_2)] 24 (0, 0))) ∧ Aside0 (Below w.heap.size w w'))
      case atStart => exact ⟨(x9_1), (0), (by first | rfl | (simp; done) | (simp [*]; done)), H', ⟨Nat.le_refl _⟩, ⟨by (with_reducible repeat (first | apply Kd.R_alloc | apply Kd.R_drewN | apply Kd.R_drew)); exact HO_7.out⟩, ⟨by (with_reducible repeat (first | apply Kd.R_alloc | apply Kd.R_drewN | apply Kd.R_drew)); exact HO_8.out⟩, ⟨by (with_reducible repeat (first | apply Kd.R_alloc | apply Kd.R_drewN | apply Kd.R_drew)); exact HO_9.out⟩, ⟨by (with_reducible repeat (first | refine kN ?_ _ | refine kD ?_ | refine kA ?_ _)); exact BK196.out⟩, ⟨by repeat (first | (with_reducible first | exact HB.out | apply bA | apply bN | apply bD | refine bS ?_ GE196.out) | exact HB.out)⟩⟩
      case round =>
       clear H'
       try clear c1
       try clear p2
       try clear c4
       try clear p6
       try clear c7
       try clear c7b0
       try clear c7b1
       try clear c8
       try clear c8b0
       try clear c8b1
       try clear c17
       try clear c17b0
       try clear c18
       try clear hcz10_0
       try clear hcz10_1
       try clear hcz10_2
       try clear hcz12_0
       try clear hcz12_1
       try clear hcz12_2
       try clear hcz14_0
       try clear hcz14_1
       try clear hcz14_2
       try clear hcz18_0
       try clear hcz18_1
       try clear hcz18_2
       try clear hfz10_0
       try clear hfz10_1
       try clear hfz10_2
       try clear hfz12_0
       try clear hfz12_1
       try clear hfz12_2
       try clear hfz14_0
       try clear hfz14_1
       try clear hfz14_2
       try clear hfz18_0
       try clear hfz18_1
       try clear hfz18_2
       try clear p2
       try clear p6
       obtain ⟨x9_2, x11_2, rfl, HA, HK2, HO_7, HO_8, HO_9, BK196, HB⟩ := hrel
       cases gk with
       | zero => exact absurd HA.out (by simp [codewrightref04_Mul.l1])
       | succ k2 =>
        have H := HA.out
        clear HA
        simp only [codewrightref04_Mul.l1] at H
        by_cases c19 : x11_2 < a0_1
        ·rw [if_pos c19] at H
         have c19b0 : decide (x11_2 < a0_1) = true := decide_eq_true c19
         clear c19
         obtain ⟨ji20, hji20⟩ : ∃ j_ : Int, (wrap64 (x10_1 + x11_2)) = j_ := ⟨_, rfl⟩
         replace H : (if 0 ≤ (ji20) then (if (ji20) < (x9_2.length : Int) then (if 0 ≤ x10_1 then (if x10_1 < (t197.length : Int) then (if 0 ≤ x11_2 then (if x11_2 < (t200.length : Int) then (if a0_0 = 0 then (none) else (codewrightref04_Mul.l1 k2 t197 t200 (x9_2.set ((ji20) : Int).toNat (Int.tmod (wrap64 ((rd x9_2 (ji20)) + (wrap64 ((rd t197 x10_1) * (rd t200 x11_2))))) a0_0)) x10_1 (wrap64 (x11_2 + 1)) a0_0 a0_1 l0_2)) else (none)) else (none)) else (none)) else (none)) else (none)) else (none)) = some r := by first | (rw [hji20] at H; exact H) | (simp only [hji20] at H ⊢; exact H)
         have hji20w : (IntKind.i64.wrap (x10_1 + x11_2)) = ji20 := (i64_w _).trans hji20
         by_cases c21 : 0 ≤ (ji20)
         ·rw [if_pos c21] at H
          have c21b0 : decide (0 ≤ (ji20)) = true := decide_eq_true c21
          clear c21
          by_cases c22 : (ji20) < (x9_2.length : Int)
          ·rw [if_pos c22] at H
           have c22b0 : decide ((ji20) < (x9_2.length : Int)) = true := decide_eq_true c22
           clear c22
           by_cases c23 : 0 ≤ x10_1
           ·rw [if_pos c23] at H
            have c23b0 : decide (0 ≤ x10_1) = true := decide_eq_true c23
            clear c23
            by_cases c24 : x10_1 < (t197.length : Int)
            ·rw [if_pos c24] at H
             have c24b0 : decide (x10_1 < (t197.length : Int)) = true := decide_eq_true c24
             clear c24
             by_cases c25 : 0 ≤ x11_2
             ·rw [if_pos c25] at H
              have c25b0 : decide (0 ≤ x11_2) = true := decide_eq_true c25
              clear c25
              by_cases c26 : x11_2 < (t200.length : Int)
              ·rw [if_pos c26] at H
               have c26b0 : decide (x11_2 < (t200.length : Int)) = true := decide_eq_true c26
               clear c26
               by_cases c27 : a0_0 = 0
               ·rw [if_pos c27] at H
                exact absurd H (by simp)
               ·rw [if_neg c27] at H
                have c27b0 : (a0_0 == 0) = false := beq_eq_false_iff_ne.mpr c27
                have c27b1 : (a0_0 != 0) = true := bne_iff_ne.mpr c27
                obtain ⟨y209, hy209⟩ : ∃ y_ : List Int, y_ = (x9_2.set ((ji20) : Int).toNat (Int.tmod (wrap64 ((rd x9_2 (ji20)) + (wrap64 ((rd t197 x10_1) * (rd t200 x11_2))))) a0_0)) := ⟨_, rfl⟩
                replace H : (codewrightref04_Mul.l1 k2 t197 t200 y209 x10_1 (wrap64 (x11_2 + 1)) a0_0 a0_1 l0_2) = some r := by first | (rw [hy209]; with_reducible exact H) | (have H2_ := (Option.bind_some _ _).symm.trans H; rw [hy209]; with_reducible exact H2_) | (have H2_ := (Option.bind_some _ _).symm.trans H; with_reducible exact H2_) | with_reducible exact H | (rw [hy209]; exact H) | exact H
                have Ny209 := Aside0.mk hy209
                clear hy209
                have H' := Aside0.mk H
                clear H
                have hcz29_0 : wr.cell? ⟨gb196, 0, none⟩ = some (.int .i64 a0_0) := (kC BK196.out 0).trans rfl
                have hcz29_1 : wr.cell? ⟨gb196, 1, none⟩ = some (.int .i64 a0_1) := (kC BK196.out 1).trans rfl
                have hcz29_2 : wr.cell? ⟨gb196, 2, none⟩ = some (.slice A0_2 l0_2.length c0_2) := (kC BK196.out 2).trans rfl
                have hfz29_0 := kF BK196.out 0
                have hfz29_1 := kF BK196.out 1
                have hfz29_2 := kF BK196.out 2
                try go_wp2
                have n0_ := Aside0.mk (Kd.R_drew HO_7.out)
                have n1_ := Aside0.mk (Kd.R_drew HO_8.out)
                have n2_ := Aside0.mk (Kd.R_drew HO_9.out)
                have n3_ := Aside0.mk (kD BK196.out)
                have n4_ := Aside0.mk (bD HB.out)
                clear HO_7
                clear HO_8
                clear HO_9
                clear BK196
                clear HB
                have HO_7 := n0_
                have HO_8 := n1_
                have HO_9 := n2_
                have BK196 := n3_
                have HB := n4_
                clear n0_ n1_ n2_ n3_ n4_
                obtain ⟨Ao31, co31, eo31⟩ := Kd.R_slice HO_9.out
                (first | subst eo31 | (injection eo31 with f1_ f2_ f3_; have f4_ := f1_.symm; have f5_ := f3_.symm; clear f1_ f2_ f3_; subst f4_; subst f5_))
                have p206 : 0 ≤ ((ji20) : Int) := of_decide_eq_true (by first | (with_reducible assumption) | assumption)
                have q206 : (ji20) < (x9_2.length : Int) := of_decide_eq_true (by first | (with_reducible assumption) | assumption)
                obtain ⟨ad206, e206, hx206_0⟩ := Kd.at_int (Kd.R_reads' HO_9.out).2.2 (ji20) p206 q206
                cases e206
                replace p206 := eq_true p206
                replace q206 := eq_true q206
                obtain ⟨Ao32, co32, eo32⟩ := Kd.R_slice HO_7.out
                (first | subst eo32 | (injection eo32 with f1_ f2_ f3_; have f4_ := f1_.symm; have f5_ := f3_.symm; clear f1_ f2_ f3_; subst f4_; subst f5_))
                have p207 : 0 ≤ (x10_1 : Int) := of_decide_eq_true (by first | (with_reducible assumption) | assumption)
                have q207 : x10_1 < (t197.length : Int) := of_decide_eq_true (by first | (with_reducible assumption) | assumption)
                obtain ⟨ad207, e207, hx207_0⟩ := Kd.at_int (Kd.R_reads' HO_7.out).2.2 x10_1 p207 q207
                cases e207
                replace p207 := eq_true p207
                replace q207 := eq_true q207
                obtain ⟨Ao33, co33, eo33⟩ := Kd.R_slice HO_8.out
                (first | subst eo33 | (injection eo33 with f1_ f2_ f3_; have f4_ := f1_.symm; have f5_ := f3_.symm; clear f1_ f2_ f3_; subst f4_; subst f5_))
                have p208 : 0 ≤ (x11_2 : Int) := of_decide_eq_true (by first | (with_reducible assumption) | assumption)
                have q208 : x11_2 < (t200.length : Int) := of_decide_eq_true (by first | (with_reducible assumption) | assumption)
                obtain ⟨ad208, e208, hx208_0⟩ := Kd.at_int (Kd.R_reads' HO_8.out).2.2 x11_2 p208 q208
                cases e208
                replace p208 := eq_true p208
                replace q208 := eq_true q208
                have p28 : 0 ≤ ((ji20) : Int) := of_decide_eq_true (by first | (with_reducible assumption) | assumption)
                have q28 : ((ji20) : Int) < ((x9_2.length : Int) : Int) := of_decide_eq_true (by first | (with_reducible assumption) | assumption)
                obtain ⟨go28, co28, eo28, gb28, gl28, cl28, HG28⟩ := Kd.R_form HO_9.out (by omega)
                (first | cases eo28 | (injection eo28 with ea_ en_ ec_; (first | subst ea_ | (injection ea_ with ea_; subst ea_)); subst ec_; clear en_))
                have GB28 := Aside0.mk gb28
                have GG28 := Aside0.mk HG28
                clear gb28 gl28 HG28
                (first | simp only [add_plain] at hx206_0 | skip)
                obtain ⟨hx28_0, hf28_0⟩ := Kd.R_celln 0 HO_9.out ((ji20) : Int) p28 q28
                replace p28 := eq_true p28
                replace q28 := eq_true q28
                have HP34 := Kd.R_putn HO_9.out ((ji20) : Int) (Int.tmod (wrap64 ((rd x9_2 (ji20)) + (wrap64 ((rd t197 x10_1) * (rd t200 x11_2))))) a0_0)
                rw [← Ny209.out] at HP34
                have HQ34 := Aside0.mk HP34
                clear HP34
                refine start_ (n := 25) (S := fun w' => w'.cell? ⟨gb196, 0, none⟩ = some (.int .i64 a0_0) ∧ w'.cell? ⟨gb196, 1, none⟩ = some (.int .i64 a0_1) ∧ w'.cell? ⟨gb196, 2, none⟩ = some (.slice A0_2 l0_2.length c0_2) ∧ w'.cell? ⟨go28, ((ji20)).toNat, none⟩ = some (.int .i64 (rd x9_2 (ji20))) ∧ w'.cell? (ad207.add (x10_1).toNat) = some (.int .i64 (rd t197 x10_1)) ∧ w'.cell? (ad208.add (x11_2).toNat) = some (.int .i64 (rd t200 x11_2))) (ds := [24]) #[false, false, false, false, false, false, false, false, false, false, false, false, false, false, false, false, false, false, false, false, false, false, false, false, false] (by kernel_rfl) rfl rfl ⟨(kC BK196.out 0).trans rfl, (kC BK196.out 1).trans rfl, (kC BK196.out 2).trans rfl, hx206_0, hx207_0, hx208_0⟩ (fun hHeld => ?_); refine with_tabW codewrightref04_Mul.tab10 codewrightref04_Mul.bits10 (fun HT_ HW_ => ?_)
                generalize wr.drew = w30 at HO_7 HO_8 HO_9 BK196 HB GG28 HQ34 hf28_0 hx206_0 hx207_0 hx208_0 hx28_0 hHeld ⊢
                refine pure_ (i := 0) (N := some 37) (v := ?_) (a' := ?_) #[true, false, false, false, false, false, false, false, false, false, false, false, false, false, false, false, false, false, false, false, false, false, false, false, false] rfl rfl (any_of HT_.out (by kernel_rfl)) (fun _ _ _ h => h) (Or.inl ⟨by rfl, ?_⟩) ?_ ?_
                rotate_left
                ·intro w'
                 go_simp
                 with_reducible rfl
                rotate_left
                ·simp only [Act.put, List.setIfInBounds_toArray, List.set_cons_zero, List.set_cons_succ, i64_w, i32_w]
                 rfl
                refine pure_ (i := 1) (N := some 38) (v := ?_) (a' := ?_) #[true, true, false, false, false, false, false, false, false, false, false, false, false, false, false, false, false, false, false, false, false, false, false, false, false] rfl rfl (any_of HT_.out (by kernel_rfl)) (fun _ _ _ h => h) (Or.inl ⟨by rfl, ?_⟩) ?_ ?_
                rotate_left
                ·intro w'
                 go_simp
                 with_reducible rfl
                rotate_left
                ·simp only [Act.put, List.setIfInBounds_toArray, List.set_cons_zero, List.set_cons_succ, i64_w, i32_w]
                 rfl
                refine pure_ (i := 2) (N := some 39) (v := ?_) (a' := ?_) #[true, true, true, false, false, false, false, false, false, false, false, false, false, false, false, false, false, false, false, false, false, false, false, false, false] rfl rfl (any_of HT_.out (by kernel_rfl)) (fun _ _ _ h => h) (Or.inl ⟨by rfl, ?_⟩) ?_ ?_
                rotate_left
                ·intro w'
                 go_simp
                 with_reducible rfl
                rotate_left
                ·simp only [Act.put, List.setIfInBounds_toArray, List.set_cons_zero, List.set_cons_succ, i64_w, i32_w]
                 rfl
                refine pure_ (i := 3) (N := some 40) (v := ?_) (a' := ?_) #[true, true, true, true, false, false, false, false, false, false, false, false, false, false, false, false, false, false, false, false, false, false, false, false, false] rfl rfl (any_of HT_.out (by kernel_rfl)) (fun _ _ _ h => h) (Or.inl ⟨by rfl, ?_⟩) ?_ ?_
                rotate_left
                ·intro w'
                 go_simp
                 with_reducible rfl
                rotate_left
                ·simp only [Act.put, List.setIfInBounds_toArray, List.set_cons_zero, List.set_cons_succ, i64_w, i32_w]
                 rfl
                refine pure_ (i := 4) (N := some 41) (v := ?_) (a' := ?_) #[true, true, true, true, true, false, false, false, false, false, false, false, false, false, false, false, false, false, false, false, false, false, false, false, false] rfl rfl (any_of HT_.out (by kernel_rfl)) (fun _ _ _ h => h) (Or.inl ⟨by rfl, ?_⟩) ?_ ?_
                rotate_left
                ·intro w'
                 go_simp
                 with_reducible rfl
                rotate_left
                ·simp only [Act.put, List.setIfInBounds_toArray, List.set_cons_zero, List.set_cons_succ, i64_w, i32_w]
                 rfl
                refine pure_ (i := 5) (N := some 42) (v := ?_) (a' := ?_) #[true, true, true, true, true, true, false, false, false, false, false, false, false, false, false, false, false, false, false, false, false, false, false, false, false] rfl rfl (any_of HT_.out (by kernel_rfl)) (fun _ _ _ h => h) (Or.inl ⟨by rfl, ?_⟩) ?_ ?_
                rotate_left
                ·intro w'
                 go_simp
                 with_reducible rfl
                rotate_left
                ·simp only [Act.put, List.setIfInBounds_toArray, List.set_cons_zero, List.set_cons_succ, i64_w, i32_w]
                 rfl
                refine pure_ (i := 6) (N := some 43) (v := ?_) (a' := ?_) #[true, true, true, true, true, true, true, false, false, false, false, false, false, false, false, false, false, false, false, false, false, false, false, false, false] rfl rfl (any_of HT_.out (by kernel_rfl)) (fun _ _ _ h => h) (Or.inl ⟨by rfl, ?_⟩) ?_ ?_
                rotate_left
                ·intro w'
                 go_simp
                 with_reducible rfl
                rotate_left
                ·simp only [Act.put, List.setIfInBounds_toArray, List.set_cons_zero, List.set_cons_succ, i64_w, i32_w]
                 rfl
                refine pure_ (i := 7) (N := some 44) (v := ?_) (a' := ?_) #[true, true, true, true, true, true, true, true, false, false, false, false, false, false, false, false, false, false, false, false, false, false, false, false, false] rfl rfl (any_of HT_.out (by kernel_rfl)) (fun _ _ _ h => h) (Or.inl ⟨by rfl, ?_⟩) ?_ ?_
                rotate_left
                ·intro w'
                 go_simp
                 with_reducible rfl
                rotate_left
                ·simp only [Act.put, List.setIfInBounds_toArray, List.set_cons_zero, List.set_cons_succ, i64_w, i32_w]
                 rfl
                refine pure_ (i := 8) (N := some 45) (v := ?_) (a' := ?_) #[true, true, true, true, true, true, true, true, true, false, false, false, false, false, false, false, false, false, false, false, false, false, false, false, false] rfl rfl (any_of HT_.out (by kernel_rfl)) (fun _ _ _ h => h) (Or.inl ⟨by rfl, ?_⟩) ?_ ?_
                rotate_left
                ·intro w'
                 go_simp
                 with_reducible rfl
                rotate_left
                ·simp only [Act.put, List.setIfInBounds_toArray, List.set_cons_zero, List.set_cons_succ, i64_w, i32_w]
                 rfl
                refine pure_ (i := 10) (N := some 47) (v := ?_) (a' := ?_) #[true, true, true, true, true, true, true, true, true, false, true, false, false, false, false, false, false, false, false, false, false, false, false, false, false] rfl rfl (any_of HT_.out (by kernel_rfl)) (fun _ _ _ h => h) (Or.inl ⟨by rfl, ?_⟩) ?_ ?_
                rotate_left
                ·intro w'
                 go_simp
                 with_reducible rfl
                rotate_left
                ·simp only [Act.put, List.setIfInBounds_toArray, List.set_cons_zero, List.set_cons_succ, i64_w, i32_w]
                 rfl
                refine pure_ (i := 11) (N := some 48) (v := ?_) (a' := ?_) #[true, true, true, true, true, true, true, true, true, false, true, true, false, false, false, false, false, false, false, false, false, false, false, false, false] rfl rfl (any_of HT_.out (by kernel_rfl)) (fun _ _ _ h => h) (Or.inl ⟨by rfl, ?_⟩) ?_ ?_
                rotate_left
                ·intro w'
                 go_simp
                 with_reducible rfl
                rotate_left
                ·simp only [Act.put, List.setIfInBounds_toArray, List.set_cons_zero, List.set_cons_succ, i64_w, i32_w]
                 rfl
                refine pure_ (i := 12) (N := some 49) (v := ?_) (a' := ?_) #[true, true, true, true, true, true, true, true, true, false, true, true, true, false, false, false, false, false, false, false, false, false, false, false, false] rfl rfl (any_of HT_.out (by kernel_rfl)) (fun _ _ _ h => h) (Or.inl ⟨by rfl, ?_⟩) ?_ ?_
                rotate_left
                ·intro w'
                 go_simp
                 with_reducible rfl
                rotate_left
                ·simp only [Act.put, List.setIfInBounds_toArray, List.set_cons_zero, List.set_cons_succ, i64_w, i32_w]
                 rfl
                refine pure_ (i := 14) (N := some 51) (v := ?_) (a' := ?_) #[true, true, true, true, true, true, true, true, true, false, true, true, true, false, true, false, false, false, false, false, false, false, false, false, false] rfl rfl (any_of HT_.out (by kernel_rfl)) (fun _ _ _ h => h) (Or.inl ⟨by rfl, ?_⟩) ?_ ?_
                rotate_left
                ·intro w'
                 go_simp
                 with_reducible rfl
                rotate_left
                ·simp only [Act.put, List.setIfInBounds_toArray, List.set_cons_zero, List.set_cons_succ, i64_w, i32_w]
                 rfl
                refine pure_ (i := 15) (N := some 52) (v := ?_) (a' := ?_) #[true, true, true, true, true, true, true, true, true, false, true, true, true, false, true, true, false, false, false, false, false, false, false, false, false] rfl rfl (any_of HT_.out (by kernel_rfl)) (fun _ _ _ h => h) (Or.inl ⟨by rfl, ?_⟩) ?_ ?_
                rotate_left
                ·intro w'
                 go_simp
                 with_reducible rfl
                rotate_left
                ·simp only [Act.put, List.setIfInBounds_toArray, List.set_cons_zero, List.set_cons_succ, i64_w, i32_w]
                 rfl
                refine pure_ (i := 16) (N := some 53) (v := ?_) (a' := ?_) #[true, true, true, true, true, true, true, true, true, false, true, true, true, false, true, true, true, false, false, false, false, false, false, false, false] rfl rfl (any_of HT_.out (by kernel_rfl)) (fun _ _ _ h => h) (Or.inl ⟨by rfl, ?_⟩) ?_ ?_
                rotate_left
                ·intro w'
                 go_simp
                 with_reducible rfl
                rotate_left
                ·simp only [Act.put, List.setIfInBounds_toArray, List.set_cons_zero, List.set_cons_succ, i64_w, i32_w]
                 rfl
                refine pure_ (i := 20) (N := some 57) (v := ?_) (a' := ?_) #[true, true, true, true, true, true, true, true, true, false, true, true, true, false, true, true, true, false, false, false, true, false, false, false, false] rfl rfl (any_of HT_.out (by kernel_rfl)) (fun _ _ _ h => h) (Or.inl ⟨by rfl, ?_⟩) ?_ ?_
                rotate_left
                ·intro w'
                 go_simp
                 with_reducible rfl
                rotate_left
                ·simp only [Act.put, List.setIfInBounds_toArray, List.set_cons_zero, List.set_cons_succ, i64_w, i32_w]
                 rfl
                refine take_ (i := 9) (N := some 46) (v := ?_) (a' := ?_) #[true, true, true, true, true, true, true, true, true, true, true, true, true, false, true, true, true, false, false, false, true, false, false, false, false] rfl rfl (take_ofW HT_.out HW_.out (by kernel_rfl)) (fun _ _ _ h => h) (Or.inl ⟨by rfl, ?_⟩) hHeld ?_ ?_
                rotate_left
                ·rintro w' ⟨s0, s1, s2, s3, s4, s5⟩
                 go_simp
                 with_reducible rfl
                rotate_left
                ·simp only [Act.put, List.setIfInBounds_toArray, List.set_cons_zero, List.set_cons_succ, i64_w, i32_w]
                 rfl
                refine take_ (i := 13) (N := some 50) (v := ?_) (a' := ?_) #[true, true, true, true, true, true, true, true, true, true, true, true, true, true, true, true, true, false, false, false, true, false, false, false, false] rfl rfl (take_ofW HT_.out HW_.out (by kernel_rfl)) (fun _ _ _ h => h) (Or.inl ⟨by rfl, ?_⟩) hHeld ?_ ?_
                rotate_left
                ·rintro w' ⟨s0, s1, s2, s3, s4, s5⟩
                 go_simp
                 with_reducible rfl
                rotate_left
                ·simp only [Act.put, List.setIfInBounds_toArray, List.set_cons_zero, List.set_cons_succ, i64_w, i32_w]
                 rfl
                refine take_ (i := 17) (N := some 54) (v := ?_) (a' := ?_) #[true, true, true, true, true, true, true, true, true, true, true, true, true, true, true, true, true, true, false, false, true, false, false, false, false] rfl rfl (take_ofW HT_.out HW_.out (by kernel_rfl)) (fun _ _ _ h => h) (Or.inl ⟨by rfl, ?_⟩) hHeld ?_ ?_
                rotate_left
                ·rintro w' ⟨s0, s1, s2, s3, s4, s5⟩
                 go_simp
                 with_reducible rfl
                rotate_left
                ·simp only [Act.put, List.setIfInBounds_toArray, List.set_cons_zero, List.set_cons_succ, i64_w, i32_w]
                 rfl
                refine pure_ (i := 18) (N := some 55) (v := ?_) (a' := ?_) #[true, true, true, true, true, true, true, true, true, true, true, true, true, true, true, true, true, true, true, false, true, false, false, false, false] rfl rfl (any_of HT_.out (by kernel_rfl)) (fun _ _ _ h => h) (Or.inl ⟨by rfl, ?_⟩) ?_ ?_
                rotate_left
                ·intro w'
                 go_simp
                 with_reducible rfl
                rotate_left
                ·simp only [Act.put, List.setIfInBounds_toArray, List.set_cons_zero, List.set_cons_succ, i64_w, i32_w]
                 rfl
                refine pure_ (i := 19) (N := some 56) (v := ?_) (a' := ?_) #[true, true, true, true, true, true, true, true, true, true, true, true, true, true, true, true, true, true, true, true, true, false, false, false, false] rfl rfl (any_of HT_.out (by kernel_rfl)) (fun _ _ _ h => h) (Or.inl ⟨by rfl, ?_⟩) ?_ ?_
                rotate_left
                ·intro w'
                 go_simp
                 with_reducible rfl
                rotate_left
                ·simp only [Act.put, List.setIfInBounds_toArray, List.set_cons_zero, List.set_cons_succ, i64_w, i32_w]
                 rfl
                refine take_ (i := 21) (N := some 58) (v := ?_) (a' := ?_) #[true, true, true, true, true, true, true, true, true, true, true, true, true, true, true, true, true, true, true, true, true, true, false, false, false] rfl rfl (take_ofW HT_.out HW_.out (by kernel_rfl)) (fun _ _ _ h => h) (Or.inl ⟨by rfl, ?_⟩) hHeld ?_ ?_
                rotate_left
                ·rintro w' ⟨s0, s1, s2, s3, s4, s5⟩
                 go_simp
                 with_reducible rfl
                rotate_left
                ·simp only [Act.put, List.setIfInBounds_toArray, List.set_cons_zero, List.set_cons_succ, i64_w, i32_w]
                 rfl
                refine pure_ (i := 22) (N := some 59) (v := ?_) (a' := ?_) #[true, true, true, true, true, true, true, true, true, true, true, true, true, true, true, true, true, true, true, true, true, true, true, false, false] rfl rfl (any_of HT_.out (by kernel_rfl)) (fun _ _ _ h => h) (Or.inl ⟨by rfl, ?_⟩) ?_ ?_
                rotate_left
                ·intro w'
                 go_simp
                 with_reducible rfl
                rotate_left
                ·simp only [Act.put, List.setIfInBounds_toArray, List.set_cons_zero, List.set_cons_succ, i64_w, i32_w]
                 rfl
                refine pure_ (i := 23) (N := some 60) (v := ?_) (a' := ?_) #[true, true, true, true, true, true, true, true, true, true, true, true, true, true, true, true, true, true, true, true, true, true, true, true, false] rfl rfl (any_of HT_.out (by kernel_rfl)) (fun _ _ _ h => h) (Or.inl ⟨by rfl, ?_⟩) ?_ ?_
                rotate_left
                ·intro w'
                 go_simp
                 with_reducible rfl
                rotate_left
                ·simp only [Act.put, List.setIfInBounds_toArray, List.set_cons_zero, List.set_cons_succ, i64_w, i32_w]
                 rfl
                refine last_ (i := 24) (N := none) #[true, true, true, true, true, true, true, true, true, true, true, true, true, true, true, true, true, true, true, true, true, true, true, true, true] rfl rfl (one_of HT_.out (by kernel_rfl)) (by decide) (fun K hK => ?_)
                refine skip_ (w1 := ?_) (by rfl) rfl ?_ ?_
                rotate_left
                ·go_simp
                 rfl
                refine hK.out _ _ ?_
                clear hK K
                refine done_ (done_of HT_.out (by kernel_rfl)) ?_
                try go_wp2
                go_roundg k2
                case measure => have := HK1.out; have := HK2.out; omega
                case rel => exact ⟨(y209), (wrap64 (x11_2 + 1)), (by first | rfl | (simp; done) | (simp [*]; done)), H', ⟨by have := HK1.out; have := HK2.out; omega⟩, ⟨by (with_reducible repeat (first | apply Kd.R_alloc | apply Kd.R_drewN | apply Kd.R_drew)); exact Kd.R_mono (Kd.R_far (p := ⟨go28, ((ji20) : Int).toNat, none⟩) (Kd.R_mono HO_7.out (fun k_ hk => (⟨hk, fun e_ => hk.2 (by rw [e_]; rfl)⟩ : _ ∧ k_ ≠ go28))) (fun _ hk => hk.2) (.int .i64 (Int.tmod (wrap64 ((rd x9_2 (ji20)) + (wrap64 ((rd t197 x10_1) * (rd t200 x11_2))))) a0_0))) (fun _ hk => ⟨hk.1.1, hk.1.2⟩)⟩, ⟨by (with_reducible repeat (first | apply Kd.R_alloc | apply Kd.R_drewN | apply Kd.R_drew)); exact Kd.R_mono (Kd.R_far (p := ⟨go28, ((ji20) : Int).toNat, none⟩) (Kd.R_mono HO_8.out (fun k_ hk => (⟨hk, fun e_ => hk.2 (by rw [e_]; rfl)⟩ : _ ∧ k_ ≠ go28))) (fun _ hk => hk.2) (.int .i64 (Int.tmod (wrap64 ((rd x9_2 (ji20)) + (wrap64 ((rd t197 x10_1) * (rd t200 x11_2))))) a0_0))) (fun _ hk => ⟨hk.1.1, hk.1.2⟩)⟩, ⟨by (with_reducible repeat (first | apply Kd.R_alloc | apply Kd.R_drewN | apply Kd.R_drew)); exact HQ34.out⟩, ⟨by (with_reducible repeat (first | refine kN ?_ _ | refine kD ?_ | refine kA ?_ _)); refine blk_far ?_ (by have h_ := Kd.R_ne HO_9.out BK196.out (by decide); intro e_; exact h_ (by rw [e_]; rfl)) _; (with_reducible repeat (first | refine kN ?_ _ | refine kD ?_ | refine kA ?_ _)); exact BK196.out⟩, ⟨by repeat (first | (with_reducible first | exact HB.out | apply bA | apply bN | apply bD | refine bS ?_ GB28.out | refine bS ?_ GE196.out) | exact HB.out)⟩⟩
              ·rw [if_neg c26] at H
               exact absurd H (by simp)
             ·rw [if_neg c25] at H
              exact absurd H (by simp)
            ·rw [if_neg c24] at H
             exact absurd H (by simp)
           ·rw [if_neg c23] at H
            exact absurd H (by simp)
          ·rw [if_neg c22] at H
           exact absurd H (by simp)
         ·rw [if_neg c21] at H
          exact absurd H (by simp)
        ·rw [if_neg c19] at H
         have c19b0 : decide (x11_2 < a0_1) = false := decide_eq_false c19
         clear c19
         have H' := Aside0.mk H
         clear H
         have hcz35_0 : wr.cell? ⟨gb196, 0, none⟩ = some (.int .i64 a0_0) := (kC BK196.out 0).trans rfl
         have hcz35_1 : wr.cell? ⟨gb196, 1, none⟩ = some (.int .i64 a0_1) := (kC BK196.out 1).trans rfl
         have hcz35_2 : wr.cell? ⟨gb196, 2, none⟩ = some (.slice A0_2 l0_2.length c0_2) := (kC BK196.out 2).trans rfl
         have hfz35_0 := kF BK196.out 0
         have hfz35_1 := kF BK196.out 1
         have hfz35_2 := kF BK196.out 2
         go_wp2
         go_roundg k2
         case measure => have := HK1.out; have := HK2.out; omega
         case rel => exact ⟨(x9_2), (wrap64 (x10_1 + 1)), (by first | rfl | (simp; done) | (simp [*]; done)), H', ⟨by have := HK1.out; have := HK2.out; omega⟩, ⟨by (with_reducible repeat (first | apply Kd.R_alloc | apply Kd.R_drewN | apply Kd.R_drew)); exact HO_7.out⟩, ⟨by (with_reducible repeat (first | apply Kd.R_alloc | apply Kd.R_drewN | apply Kd.R_drew)); exact HO_8.out⟩, ⟨by (with_reducible repeat (first | apply Kd.R_alloc | apply Kd.R_drewN | apply Kd.R_drew)); exact HO_9.out⟩, ⟨by (with_reducible repeat (first | refine kN ?_ _ | refine kD ?_ | refine kA ?_ _)); exact BK196.out⟩, ⟨by repeat (first | (with_reducible first | exact HB.out | apply bA | apply bN | apply bD | refine bS ?_ GE196.out) | exact HB.out)⟩⟩
     ·rw [if_neg c17] at H
      have c17b0 : decide (x10_1 < a0_1) = false := decide_eq_false c17
      clear c17
      have H' := Aside0.mk H
      clear H
      have hcz36_0 : wr.cell? ⟨gb196, 0, none⟩ = some (.int .i64 a0_0) := (kC BK196.out 0).trans rfl
      have hcz36_1 : wr.cell? ⟨gb196, 1, none⟩ = some (.int .i64 a0_1) := (kC BK196.out 1).trans rfl
      have hcz36_2 : wr.cell? ⟨gb196, 2, none⟩ = some (.slice A0_2 l0_2.length c0_2) := (kC BK196.out 2).trans rfl
      have hfz36_0 := kF BK196.out 0
      have hfz36_1 := kF BK196.out 1
      have hfz36_2 := kF BK196.out 2
      go_wp2
      go_loopg [12] k1 (fun kq v12 w' => ∃ (x9_2 : List Int) (x12_2 : Int), v12 = .int .i64 x12_2 ∧ Aside0 (codewrightref04_Mul.l2 kq x9_2 x12_2 a0_0 a0_1 l0_2 = some r) ∧ Aside0 (kq ≤ k1) ∧ Aside0 (Kd.R (Kd.int .i64) 3 w' w.heap.size (fun _ => True) v204 x9_2) ∧ Aside0 (w'.heap[gb196]? = some (.cells #[.int .i64 a0_0, .int .i64 a0_1, (.slice A0_2 l0_2.length c0_2)] 24 (0, 0))) ∧ Aside0 (Below w.heap.size w w'))
      case atStart => exact ⟨(x9_1), (wrap64 ((wrap64 (2 * a0_1)) - 2)), (by first | rfl | (simp; done) | (simp [*]; done)), H', ⟨Nat.le_refl _⟩, ⟨by (with_reducible repeat (first | apply Kd.R_alloc | apply Kd.R_drewN | apply Kd.R_drew)); exact Kd.R_mono HO_9.out (fun _ hk => trivial)⟩, ⟨by (with_reducible repeat (first | refine kN ?_ _ | refine kD ?_ | refine kA ?_ _)); exact BK196.out⟩, ⟨by repeat (first | (with_reducible first | exact HB.out | apply bA | apply bN | apply bD | refine bS ?_ GE196.out) | exact HB.out)⟩⟩
      case round =>
       clear H'
       try clear c1
       try clear c2
       try clear p2
       try clear q2
       try clear hx2
       try clear c4
       try clear p6
       try clear c7
       try clear c7b0
       try clear c7b1
       try clear c8
       try clear c8b0
       try clear c8b1
       try clear c17
       try clear c17b0
       try clear c18
       try clear c19
       try clear c19b0
       try clear p20
       try clear q20
       try clear hx20
       try clear c21
       try clear c21b0
       try clear c22
       try clear c22b0
       try clear c23
       try clear c23b0
       try clear c24
       try clear c24b0
       try clear c25
       try clear c25b0
       try clear c26
       try clear c26b0
       try clear c27
       try clear c27b0
       try clear c27b1
       try clear p28
       try clear q28
       try clear hx28
       try clear hf28
       try clear hcz10_0
       try clear hcz10_1
       try clear hcz10_2
       try clear hcz12_0
       try clear hcz12_1
       try clear hcz12_2
       try clear hcz14_0
       try clear hcz14_1
       try clear hcz14_2
       try clear hcz18_0
       try clear hcz18_1
       try clear hcz18_2
       try clear hcz29_0
       try clear hcz29_1
       try clear hcz29_2
       try clear hcz35_0
       try clear hcz35_1
       try clear hcz35_2
       try clear hcz36_0
       try clear hcz36_1
       try clear hcz36_2
       try clear hfz10_0
       try clear hfz10_1
       try clear hfz10_2
       try clear hfz12_0
       try clear hfz12_1
       try clear hfz12_2
       try clear hfz14_0
       try clear hfz14_1
       try clear hfz14_2
       try clear hfz18_0
       try clear hfz18_1
       try clear hfz18_2
       try clear hfz29_0
       try clear hfz29_1
       try clear hfz29_2
       try clear hfz35_0
       try clear hfz35_1
       try clear hfz35_2
       try clear hfz36_0
       try clear hfz36_1
       try clear hfz36_2
       try clear hx206_0
       try clear hx207_0
       try clear hx208_0
       try clear hx28_0
       try clear p2
       try clear p206
       try clear p207
       try clear p208
       try clear p28
       try clear p6
       try clear q206
       try clear q207
       try clear q208
       try clear q28
       obtain ⟨x9_2, x12_2, rfl, HA, HK2, HO_9, BK196, HB⟩ := hrel
       cases gk with
       | zero => exact absurd HA.out (by simp [codewrightref04_Mul.l2])
       | succ k2 =>
        have H := HA.out
        clear HA
        simp only [codewrightref04_Mul.l2] at H
        by_cases c37 : x12_2 ≥ a0_1
        ·rw [if_pos c37] at H
         have c37b0 : decide (a0_1 ≤ x12_2) = true := decide_eq_true c37
         clear c37
         have H' := Aside0.mk H
         clear H
         have hcz38_0 : wr.cell? ⟨gb196, 0, none⟩ = some (.int .i64 a0_0) := (kC BK196.out 0).trans rfl
         have hcz38_1 : wr.cell? ⟨gb196, 1, none⟩ = some (.int .i64 a0_1) := (kC BK196.out 1).trans rfl
         have hcz38_2 : wr.cell? ⟨gb196, 2, none⟩ = some (.slice A0_2 l0_2.length c0_2) := (kC BK196.out 2).trans rfl
         have hfz38_0 := kF BK196.out 0
         have hfz38_1 := kF BK196.out 1
         have hfz38_2 := kF BK196.out 2
         go_wp2
         go_loopg [13] k2 (fun kq v13 w' => ∃ (x9_3 : List Int) (x13_3 : Int), v13 = .int .i64 x13_3 ∧ Aside0 (codewrightref04_Mul.l3 kq x9_3 x12_2 x13_3 a0_0 a0_1 l0_2 = some r) ∧ Aside0 (kq ≤ k2) ∧ Aside0 (Kd.R (Kd.int .i64) 3 w' w.heap.size (fun _ => True) v204 x9_3) ∧ Aside0 (w'.heap[gb196]? = some (.cells #[.int .i64 a0_0, .int .i64 a0_1, (.slice A0_2 l0_2.length c0_2)] 24 (0, 0))) ∧ Aside0 (Below w.heap.size w w'))
         case atStart => exact ⟨(x9_2), (0), (by first | rfl | (simp; done) | (simp [*]; done)), H', ⟨Nat.le_refl _⟩, ⟨by (with_reducible repeat (first | apply Kd.R_alloc | apply Kd.R_drewN | apply Kd.R_drew)); exact HO_9.out⟩, ⟨by (with_reducible repeat (first | refine kN ?_ _ | refine kD ?_ | refine kA ?_ _)); exact BK196.out⟩, ⟨by repeat (first | (with_reducible first | exact HB.out | apply bA | apply bN | apply bD | refine bS ?_ GE196.out) | exact HB.out)⟩⟩
         case round =>
          clear H'
          try clear c1
          try clear c2
          try clear p2
          try clear q2
          try clear hx2
          try clear c3
          try clear c4
          try clear p6
          try clear c7
          try clear c7b0
          try clear c7b1
          try clear c8
          try clear c8b0
          try clear c8b1
          try clear c17
          try clear c17b0
          try clear c18
          try clear c19
          try clear c19b0
          try clear p20
          try clear q20
          try clear hx20
          try clear c21
          try clear c21b0
          try clear c22
          try clear c22b0
          try clear c23
          try clear c23b0
          try clear c24
          try clear c24b0
          try clear c25
          try clear c25b0
          try clear c26
          try clear c26b0
          try clear c27
          try clear c27b0
          try clear c27b1
          try clear p28
          try clear q28
          try clear hx28
          try clear hf28
          try clear c37
          try clear c37b0
          try clear hcz10_0
          try clear hcz10_1
          try clear hcz10_2
          try clear hcz12_0
          try clear hcz12_1
          try clear hcz12_2
          try clear hcz14_0
          try clear hcz14_1
          try clear hcz14_2
          try clear hcz18_0
          try clear hcz18_1
          try clear hcz18_2
          try clear hcz29_0
          try clear hcz29_1
          try clear hcz29_2
          try clear hcz35_0
          try clear hcz35_1
          try clear hcz35_2
          try clear hcz36_0
          try clear hcz36_1
          try clear hcz36_2
          try clear hcz38_0
          try clear hcz38_1
          try clear hcz38_2
          try clear hfz10_0
          try clear hfz10_1
          try clear hfz10_2
          try clear hfz12_0
          try clear hfz12_1
          try clear hfz12_2
          try clear hfz14_0
          try clear hfz14_1
          try clear hfz14_2
          try clear hfz18_0
          try clear hfz18_1
          try clear hfz18_2
          try clear hfz29_0
          try clear hfz29_1
          try clear hfz29_2
          try clear hfz35_0
          try clear hfz35_1
          try clear hfz35_2
          try clear hfz36_0
          try clear hfz36_1
          try clear hfz36_2
          try clear hfz38_0
          try clear hfz38_1
          try clear hfz38_2
          try clear hx206_0
          try clear hx207_0
          try clear hx208_0
          try clear hx28_0
          try clear p2
          try clear p20
          try clear p206
          try clear p207
          try clear p208
          try clear p28
          try clear p6
          try clear q2
          try clear q20
          try clear q206
          try clear q207
          try clear q208
          try clear q28
          obtain ⟨x9_3, x13_3, rfl, HA, HK3, HO_9, BK196, HB⟩ := hrel
          cases gk with
          | zero => exact absurd HA.out (by simp [codewrightref04_Mul.l3])
          | succ k3 =>
           have H := HA.out
           clear HA
           simp only [codewrightref04_Mul.l3] at H
           by_cases c39 : x13_3 < a0_1
           ·rw [if_pos c39] at H
            have c39b0 : decide (x13_3 < a0_1) = true := decide_eq_true c39
            clear c39
            obtain ⟨ji40, hji40⟩ : ∃ j_ : Int, (wrap64 ((wrap64 (x12_2 - a0_1)) + x13_3)) = j_ := ⟨_, rfl⟩
            replace H : (if 0 ≤ (ji40) then (if (ji40) < (x9_3.length : Int) then (if 0 ≤ x12_2 then (if x12_2 < (x9_3.length : Int) then (if 0 ≤ x13_3 then (if x13_3 < (l0_2.length : Int) then (if a0_0 = 0 then (none) else (codewrightref04_Mul.l3 k3 (x9_3.set ((ji40) : Int).toNat (Int.tmod (wrap64 ((rd x9_3 (ji40)) + (wrap64 ((wrap64 (a0_0 - (rd x9_3 x12_2))) * (rd l0_2 x13_3))))) a0_0)) x12_2 (wrap64 (x13_3 + 1)) a0_0 a0_1 l0_2)) else (none)) else (none)) else (none)) else (none)) else (none)) else (none)) = some r := by first | (rw [hji40] at H; exact H) | (simp only [hji40] at H ⊢; exact H)
            have hji40w : (IntKind.i64.wrap ((wrap64 (x12_2 - a0_1)) + x13_3)) = ji40 := (i64_w _).trans hji40
            by_cases c41 : 0 ≤ (ji40)
            ·rw [if_pos c41] at H
             have c41b0 : decide (0 ≤ (ji40)) = true := decide_eq_true c41
             clear c41
             by_cases c42 : (ji40) < (x9_3.length : Int)
             ·rw [if_pos c42] at H
              have c42b0 : decide ((ji40) < (x9_3.length : Int)) = true := decide_eq_true c42
              clear c42
              by_cases c43 : 0 ≤ x12_2
              ·rw [if_pos c43] at H
               have c43b0 : decide (0 ≤ x12_2) = true := decide_eq_true c43
               clear c43
               by_cases c44 : x12_2 < (x9_3.length : Int)
               ·rw [if_pos c44] at H
                have c44b0 : decide (x12_2 < (x9_3.length : Int)) = true := decide_eq_true c44
                clear c44
                by_cases c45 : 0 ≤ x13_3
                ·rw [if_pos c45] at H
                 have c45b0 : decide (0 ≤ x13_3) = true := decide_eq_true c45
                 clear c45
                 by_cases c46 : x13_3 < (l0_2.length : Int)
                 ·rw [if_pos c46] at H
                  have c46b0 : decide (x13_3 < (l0_2.length : Int)) = true := decide_eq_true c46
                  clear c46
                  by_cases c47 : a0_0 = 0
                  ·rw [if_pos c47] at H
                   exact absurd H (by simp)
                  ·rw [if_neg c47] at H
                   have c47b0 : (a0_0 == 0) = false := beq_eq_false_iff_ne.mpr c47
                   have c47b1 : (a0_0 != 0) = true := bne_iff_ne.mpr c47
                   obtain ⟨y218, hy218⟩ : ∃ y_ : List Int, y_ = (x9_3.set ((ji40) : Int).toNat (Int.tmod (wrap64 ((rd x9_3 (ji40)) + (wrap64 ((wrap64 (a0_0 - (rd x9_3 x12_2))) * (rd l0_2 x13_3))))) a0_0)) := ⟨_, rfl⟩
                   replace H : (codewrightref04_Mul.l3 k3 y218 x12_2 (wrap64 (x13_3 + 1)) a0_0 a0_1 l0_2) = some r := by first | (rw [hy218]; with_reducible exact H) | (have H2_ := (Option.bind_some _ _).symm.trans H; rw [hy218]; with_reducible exact H2_) | (have H2_ := (Option.bind_some _ _).symm.trans H; with_reducible exact H2_) | with_reducible exact H | (rw [hy218]; exact H) | exact H
                   have Ny218 := Aside0.mk hy218
                   clear hy218
                   have H' := Aside0.mk H
                   clear H
                   have hcz49_0 : wr.cell? ⟨gb196, 0, none⟩ = some (.int .i64 a0_0) := (kC BK196.out 0).trans rfl
                   have hcz49_1 : wr.cell? ⟨gb196, 1, none⟩ = some (.int .i64 a0_1) := (kC BK196.out 1).trans rfl
                   have hcz49_2 : wr.cell? ⟨gb196, 2, none⟩ = some (.slice A0_2 l0_2.length c0_2) := (kC BK196.out 2).trans rfl
                   have hfz49_0 := kF BK196.out 0
                   have hfz49_1 := kF BK196.out 1
                   have hfz49_2 := kF BK196.out 2
                   try go_wp2
                   have n0_ := Aside0.mk (Kd.R_drew HO_9.out)
                   have n1_ := Aside0.mk (kD BK196.out)
                   have n2_ := Aside0.mk (bD HB.out)
                   clear HO_9
                   clear BK196
                   clear HB
                   have HO_9 := n0_
                   have BK196 := n1_
                   have HB := n2_
                   clear n0_ n1_ n2_
                   obtain ⟨Ao51, co51, eo51⟩ := Kd.R_slice HO_9.out
                   (first | subst eo51 | (injection eo51 with f1_ f2_ f3_; have f4_ := f1_.symm; have f5_ := f3_.symm; clear f1_ f2_ f3_; subst f4_; subst f5_))
                   have p215 : 0 ≤ ((ji40) : Int) := of_decide_eq_true (by first | (with_reducible assumption) | assumption)
                   have q215 : (ji40) < (x9_3.length : Int) := of_decide_eq_true (by first | (with_reducible assumption) | assumption)
                   obtain ⟨ad215, e215, hx215_0⟩ := Kd.at_int (Kd.R_reads' HO_9.out).2.2 (ji40) p215 q215
                   cases e215
                   replace p215 := eq_true p215
                   replace q215 := eq_true q215
                   have p216 : 0 ≤ (x12_2 : Int) := of_decide_eq_true (by first | (with_reducible assumption) | assumption)
                   have q216 : x12_2 < (x9_3.length : Int) := of_decide_eq_true (by first | (with_reducible assumption) | assumption)
                   obtain ⟨ad216, e216, hx216_0⟩ := Kd.at_int (Kd.R_reads' HO_9.out).2.2 x12_2 p216 q216
                   obtain rfl : ad215 = ad216 := (by injection e216)
                   replace p216 := eq_true p216
                   replace q216 := eq_true q216
                   have p217 : 0 ≤ (x13_3 : Int) := of_decide_eq_true (by first | (with_reducible assumption) | assumption)
                   have q217 : x13_3 < (l0_2.length : Int) := of_decide_eq_true (by first | (with_reducible assumption) | assumption)
                   obtain ⟨ad217, e217, hx217_0⟩ := Kd.at_int HR0_2.out x13_3 p217 q217
                   have hw217_0 := hx217_0
                   cases e217
                   replace hx217_0 := (HB.out.cell (World.block_lt_of_cell? w _ hx217_0)).trans hx217_0
                   replace p217 := eq_true p217
                   replace q217 := eq_true q217
                   have p48 : 0 ≤ ((ji40) : Int) := of_decide_eq_true (by first | (with_reducible assumption) | assumption)
                   have q48 : ((ji40) : Int) < ((x9_3.length : Int) : Int) := of_decide_eq_true (by first | (with_reducible assumption) | assumption)
                   obtain ⟨go48, co48, eo48, gb48, gl48, cl48, HG48⟩ := Kd.R_form HO_9.out (by omega)
                   (first | cases eo48 | (injection eo48 with ea_ en_ ec_; (first | subst ea_ | (injection ea_ with ea_; subst ea_)); subst ec_; clear en_))
                   have GB48 := Aside0.mk gb48
                   have GG48 := Aside0.mk HG48
                   clear gb48 gl48 HG48
                   (first | simp only [add_plain] at hx215_0 | skip)
                   (first | simp only [add_plain] at hx216_0 | skip)
                   obtain ⟨hx48_0, hf48_0⟩ := Kd.R_celln 0 HO_9.out ((ji40) : Int) p48 q48
                   replace p48 := eq_true p48
                   replace q48 := eq_true q48
                   have HP52 := Kd.R_putn HO_9.out ((ji40) : Int) (Int.tmod (wrap64 ((rd x9_3 (ji40)) + (wrap64 ((wrap64 (a0_0 - (rd x9_3 x12_2))) * (rd l0_2 x13_3))))) a0_0)
                   rw [← Ny218.out] at HP52
                   have HQ52 := Aside0.mk HP52
                   clear HP52
                   refine start_ (n := 35) (S := fun w' => w'.cell? ⟨gb196, 0, none⟩ = some (.int .i64 a0_0) ∧ w'.cell? ⟨gb196, 1, none⟩ = some (.int .i64 a0_1) ∧ w'.cell? ⟨gb196, 2, none⟩ = some (.slice (some ad217) l0_2.length c0_2) ∧ w'.cell? ⟨go48, ((ji40)).toNat, none⟩ = some (.int .i64 (rd x9_3 (ji40))) ∧ w'.cell? ⟨go48, (x12_2).toNat, none⟩ = some (.int .i64 (rd x9_3 x12_2)) ∧ w'.cell? (ad217.add (x13_3).toNat) = some (.int .i64 (rd l0_2 x13_3))) (ds := [34]) #[false, false, false, false, false, false, false, false, false, false, false, false, false, false, false, false, false, false, false, false, false, false, false, false, false, false, false, false, false, false, false, false, false, false, false] (by kernel_rfl) rfl rfl ⟨(kC BK196.out 0).trans rfl, (kC BK196.out 1).trans rfl, (kC BK196.out 2).trans rfl, hx215_0, hx216_0, ((HB.out.cell (World.block_lt_of_cell? w _ hw217_0)).trans hw217_0)⟩ (fun hHeld => ?_); refine with_tabW codewrightref04_Mul.tab17 codewrightref04_Mul.bits17 (fun HT_ HW_ => ?_)
                   generalize wr.drew = w50 at HO_9 BK196 HB GG48 HQ52 hf48_0 hx215_0 hx216_0 hx217_0 hx48_0 hHeld ⊢
                   refine pure_ (i := 0) (N := some 77) (v := ?_) (a' := ?_) #[true, false, false, false, false, false, false, false, false, false, false, false, false, false, false, false, false, false, false, false, false, false, false, false, false, false, false, false, false, false, false, false, false, false, false] rfl rfl (any_of HT_.out (by kernel_rfl)) (fun _ _ _ h => h) (Or.inl ⟨by rfl, ?_⟩) ?_ ?_
                   rotate_left
                   ·intro w'
                    go_simp
                    with_reducible rfl
                   rotate_left
                   ·simp only [Act.put, List.setIfInBounds_toArray, List.set_cons_zero, List.set_cons_succ, i64_w, i32_w]
                    rfl
                   refine pure_ (i := 1) (N := some 78) (v := ?_) (a' := ?_) #[true, true, false, false, false, false, false, false, false, false, false, false, false, false, false, false, false, false, false, false, false, false, false, false, false, false, false, false, false, false, false, false, false, false, false] rfl rfl (any_of HT_.out (by kernel_rfl)) (fun _ _ _ h => h) (Or.inl ⟨by rfl, ?_⟩) ?_ ?_
                   rotate_left
                   ·intro w'
                    go_simp
                    with_reducible rfl
                   rotate_left
                   ·simp only [Act.put, List.setIfInBounds_toArray, List.set_cons_zero, List.set_cons_succ, i64_w, i32_w]
                    rfl
                   refine pure_ (i := 2) (N := some 79) (v := ?_) (a' := ?_) #[true, true, true, false, false, false, false, false, false, false, false, false, false, false, false, false, false, false, false, false, false, false, false, false, false, false, false, false, false, false, false, false, false, false, false] rfl rfl (any_of HT_.out (by kernel_rfl)) (fun _ _ _ h => h) (Or.inl ⟨by rfl, ?_⟩) ?_ ?_
                   rotate_left
                   ·intro w'
                    go_simp
                    with_reducible rfl
                   rotate_left
                   ·simp only [Act.put, List.setIfInBounds_toArray, List.set_cons_zero, List.set_cons_succ, i64_w, i32_w]
                    rfl
                   refine pure_ (i := 5) (N := some 82) (v := ?_) (a' := ?_) #[true, true, true, false, false, true, false, false, false, false, false, false, false, false, false, false, false, false, false, false, false, false, false, false, false, false, false, false, false, false, false, false, false, false, false] rfl rfl (any_of HT_.out (by kernel_rfl)) (fun _ _ _ h => h) (Or.inl ⟨by rfl, ?_⟩) ?_ ?_
                   rotate_left
                   ·intro w'
                    go_simp
                    with_reducible rfl
                   rotate_left
                   ·simp only [Act.put, List.setIfInBounds_toArray, List.set_cons_zero, List.set_cons_succ, i64_w, i32_w]
                    rfl
                   refine pure_ (i := 7) (N := some 84) (v := ?_) (a' := ?_) #[true, true, true, false, false, true, false, true, false, false, false, false, false, false, false, false, false, false, false, false, false, false, false, false, false, false, false, false, false, false, false, false, false, false, false] rfl rfl (any_of HT_.out (by kernel_rfl)) (fun _ _ _ h => h) (Or.inl ⟨by rfl, ?_⟩) ?_ ?_
                   rotate_left
                   ·intro w'
                    go_simp
                    with_reducible rfl
                   rotate_left
                   ·simp only [Act.put, List.setIfInBounds_toArray, List.set_cons_zero, List.set_cons_succ, i64_w, i32_w]
                    rfl
                   refine pure_ (i := 8) (N := some 85) (v := ?_) (a' := ?_) #[true, true, true, false, false, true, false, true, true, false, false, false, false, false, false, false, false, false, false, false, false, false, false, false, false, false, false, false, false, false, false, false, false, false, false] rfl rfl (any_of HT_.out (by kernel_rfl)) (fun _ _ _ h => h) (Or.inl ⟨by rfl, ?_⟩) ?_ ?_
                   rotate_left
                   ·intro w'
                    go_simp
                    with_reducible rfl
                   rotate_left
                   ·simp only [Act.put, List.setIfInBounds_toArray, List.set_cons_zero, List.set_cons_succ, i64_w, i32_w]
                    rfl
                   refine pure_ (i := 9) (N := some 86) (v := ?_) (a' := ?_) #[true, true, true, false, false, true, false, true, true, true, false, false, false, false, false, false, false, false, false, false, false, false, false, false, false, false, false, false, false, false, false, false, false, false, false] rfl rfl (any_of HT_.out (by kernel_rfl)) (fun _ _ _ h => h) (Or.inl ⟨by rfl, ?_⟩) ?_ ?_
                   rotate_left
                   ·intro w'
                    go_simp
                    with_reducible rfl
                   rotate_left
                   ·simp only [Act.put, List.setIfInBounds_toArray, List.set_cons_zero, List.set_cons_succ, i64_w, i32_w]
                    rfl
                   refine pure_ (i := 12) (N := some 89) (v := ?_) (a' := ?_) #[true, true, true, false, false, true, false, true, true, true, false, false, true, false, false, false, false, false, false, false, false, false, false, false, false, false, false, false, false, false, false, false, false, false, false] rfl rfl (any_of HT_.out (by kernel_rfl)) (fun _ _ _ h => h) (Or.inl ⟨by rfl, ?_⟩) ?_ ?_
                   rotate_left
                   ·intro w'
                    go_simp
                    with_reducible rfl
                   rotate_left
                   ·simp only [Act.put, List.setIfInBounds_toArray, List.set_cons_zero, List.set_cons_succ, i64_w, i32_w]
                    rfl
                   refine pure_ (i := 16) (N := some 93) (v := ?_) (a' := ?_) #[true, true, true, false, false, true, false, true, true, true, false, false, true, false, false, false, true, false, false, false, false, false, false, false, false, false, false, false, false, false, false, false, false, false, false] rfl rfl (any_of HT_.out (by kernel_rfl)) (fun _ _ _ h => h) (Or.inl ⟨by rfl, ?_⟩) ?_ ?_
                   rotate_left
                   ·intro w'
                    go_simp
                    with_reducible rfl
                   rotate_left
                   ·simp only [Act.put, List.setIfInBounds_toArray, List.set_cons_zero, List.set_cons_succ, i64_w, i32_w]
                    rfl
                   refine pure_ (i := 18) (N := some 95) (v := ?_) (a' := ?_) #[true, true, true, false, false, true, false, true, true, true, false, false, true, false, false, false, true, false, true, false, false, false, false, false, false, false, false, false, false, false, false, false, false, false, false] rfl rfl (any_of HT_.out (by kernel_rfl)) (fun _ _ _ h => h) (Or.inl ⟨by rfl, ?_⟩) ?_ ?_
                   rotate_left
                   ·intro w'
                    go_simp
                    with_reducible rfl
                   rotate_left
                   ·simp only [Act.put, List.setIfInBounds_toArray, List.set_cons_zero, List.set_cons_succ, i64_w, i32_w]
                    rfl
                   refine pure_ (i := 19) (N := some 96) (v := ?_) (a' := ?_) #[true, true, true, false, false, true, false, true, true, true, false, false, true, false, false, false, true, false, true, true, false, false, false, false, false, false, false, false, false, false, false, false, false, false, false] rfl rfl (any_of HT_.out (by kernel_rfl)) (fun _ _ _ h => h) (Or.inl ⟨by rfl, ?_⟩) ?_ ?_
                   rotate_left
                   ·intro w'
                    go_simp
                    with_reducible rfl
                   rotate_left
                   ·simp only [Act.put, List.setIfInBounds_toArray, List.set_cons_zero, List.set_cons_succ, i64_w, i32_w]
                    rfl
                   refine pure_ (i := 20) (N := some 97) (v := ?_) (a' := ?_) #[true, true, true, false, false, true, false, true, true, true, false, false, true, false, false, false, true, false, true, true, true, false, false, false, false, false, false, false, false, false, false, false, false, false, false] rfl rfl (any_of HT_.out (by kernel_rfl)) (fun _ _ _ h => h) (Or.inl ⟨by rfl, ?_⟩) ?_ ?_
                   rotate_left
                   ·intro w'
                    go_simp
                    with_reducible rfl
                   rotate_left
                   ·simp only [Act.put, List.setIfInBounds_toArray, List.set_cons_zero, List.set_cons_succ, i64_w, i32_w]
                    rfl
                   refine pure_ (i := 23) (N := some 100) (v := ?_) (a' := ?_) #[true, true, true, false, false, true, false, true, true, true, false, false, true, false, false, false, true, false, true, true, true, false, false, true, false, false, false, false, false, false, false, false, false, false, false] rfl rfl (any_of HT_.out (by kernel_rfl)) (fun _ _ _ h => h) (Or.inl ⟨by rfl, ?_⟩) ?_ ?_
                   rotate_left
                   ·intro w'
                    go_simp
                    with_reducible rfl
                   rotate_left
                   ·simp only [Act.put, List.setIfInBounds_toArray, List.set_cons_zero, List.set_cons_succ, i64_w, i32_w]
                    rfl
                   refine pure_ (i := 25) (N := some 102) (v := ?_) (a' := ?_) #[true, true, true, false, false, true, false, true, true, true, false, false, true, false, false, false, true, false, true, true, true, false, false, true, false, true, false, false, false, false, false, false, false, false, false] rfl rfl (any_of HT_.out (by kernel_rfl)) (fun _ _ _ h => h) (Or.inl ⟨by rfl, ?_⟩) ?_ ?_
                   rotate_left
                   ·intro w'
                    go_simp
                    with_reducible rfl
                   rotate_left
                   ·simp only [Act.put, List.setIfInBounds_toArray, List.set_cons_zero, List.set_cons_succ, i64_w, i32_w]
                    rfl
                   refine pure_ (i := 30) (N := some 107) (v := ?_) (a' := ?_) #[true, true, true, false, false, true, false, true, true, true, false, false, true, false, false, false, true, false, true, true, true, false, false, true, false, true, false, false, false, false, true, false, false, false, false] rfl rfl (any_of HT_.out (by kernel_rfl)) (fun _ _ _ h => h) (Or.inl ⟨by rfl, ?_⟩) ?_ ?_
                   rotate_left
                   ·intro w'
                    go_simp
                    with_reducible rfl
                   rotate_left
                   ·simp only [Act.put, List.setIfInBounds_toArray, List.set_cons_zero, List.set_cons_succ, i64_w, i32_w]
                    rfl
                   refine take_ (i := 3) (N := some 80) (v := ?_) (a' := ?_) #[true, true, true, true, false, true, false, true, true, true, false, false, true, false, false, false, true, false, true, true, true, false, false, true, false, true, false, false, false, false, true, false, false, false, false] rfl rfl (take_ofW HT_.out HW_.out (by kernel_rfl)) (fun _ _ _ h => h) (Or.inl ⟨by rfl, ?_⟩) hHeld ?_ ?_
                   rotate_left
                   ·rintro w' ⟨s0, s1, s2, s3, s4, s5⟩
                    go_simp
                    with_reducible rfl
                   rotate_left
                   ·simp only [Act.put, List.setIfInBounds_toArray, List.set_cons_zero, List.set_cons_succ, i64_w, i32_w]
                    rfl
                   refine pure_ (i := 4) (N := some 81) (v := ?_) (a' := ?_) #[true, true, true, true, true, true, false, true, true, true, false, false, true, false, false, false, true, false, true, true, true, false, false, true, false, true, false, false, false, false, true, false, false, false, false] rfl rfl (any_of HT_.out (by kernel_rfl)) (fun _ _ _ h => h) (Or.inl ⟨by rfl, ?_⟩) ?_ ?_
                   rotate_left
                   ·intro w'
                    go_simp
                    with_reducible rfl
                   rotate_left
                   ·simp only [Act.put, List.setIfInBounds_toArray, List.set_cons_zero, List.set_cons_succ, i64_w, i32_w]
                    rfl
                   refine pure_ (i := 6) (N := some 83) (v := ?_) (a' := ?_) #[true, true, true, true, true, true, true, true, true, true, false, false, true, false, false, false, true, false, true, true, true, false, false, true, false, true, false, false, false, false, true, false, false, false, false] rfl rfl (any_of HT_.out (by kernel_rfl)) (fun _ _ _ h => h) (Or.inl ⟨by rfl, ?_⟩) ?_ ?_
                   rotate_left
                   ·intro w'
                    go_simp
                    with_reducible rfl
                   rotate_left
                   ·simp only [Act.put, List.setIfInBounds_toArray, List.set_cons_zero, List.set_cons_succ, i64_w, i32_w]
                    rfl
                   refine take_ (i := 10) (N := some 87) (v := ?_) (a' := ?_) #[true, true, true, true, true, true, true, true, true, true, true, false, true, false, false, false, true, false, true, true, true, false, false, true, false, true, false, false, false, false, true, false, false, false, false] rfl rfl (take_ofW HT_.out HW_.out (by kernel_rfl)) (fun _ _ _ h => h) (Or.inl ⟨by rfl, ?_⟩) hHeld ?_ ?_
                   rotate_left
                   ·rintro w' ⟨s0, s1, s2, s3, s4, s5⟩
                    go_simp
                    with_reducible rfl
                   rotate_left
                   ·simp only [Act.put, List.setIfInBounds_toArray, List.set_cons_zero, List.set_cons_succ, i64_w, i32_w]
                    rfl
                   refine pure_ (i := 11) (N := some 88) (v := ?_) (a' := ?_) #[true, true, true, true, true, true, true, true, true, true, true, true, true, false, false, false, true, false, true, true, true, false, false, true, false, true, false, false, false, false, true, false, false, false, false] rfl rfl (any_of HT_.out (by kernel_rfl)) (fun _ _ _ h => h) (Or.inl ⟨by rfl, ?_⟩) ?_ ?_
                   rotate_left
                   ·intro w'
                    go_simp
                    with_reducible rfl
                   rotate_left
                   ·simp only [Act.put, List.setIfInBounds_toArray, List.set_cons_zero, List.set_cons_succ, i64_w, i32_w]
                    rfl
                   refine pure_ (i := 13) (N := some 90) (v := ?_) (a' := ?_) #[true, true, true, true, true, true, true, true, true, true, true, true, true, true, false, false, true, false, true, true, true, false, false, true, false, true, false, false, false, false, true, false, false, false, false] rfl rfl (any_of HT_.out (by kernel_rfl)) (fun _ _ _ h => h) (Or.inl ⟨by rfl, ?_⟩) ?_ ?_
                   rotate_left
                   ·intro w'
                    go_simp
                    with_reducible rfl
                   rotate_left
                   ·simp only [Act.put, List.setIfInBounds_toArray, List.set_cons_zero, List.set_cons_succ, i64_w, i32_w]
                    rfl
                   refine pure_ (i := 14) (N := some 91) (v := ?_) (a' := ?_) #[true, true, true, true, true, true, true, true, true, true, true, true, true, true, true, false, true, false, true, true, true, false, false, true, false, true, false, false, false, false, true, false, false, false, false] rfl rfl (any_of HT_.out (by kernel_rfl)) (fun _ _ _ h => h) (Or.inl ⟨by rfl, ?_⟩) ?_ ?_
                   rotate_left
                   ·intro w'
                    go_simp
                    with_reducible rfl
                   rotate_left
                   ·simp only [Act.put, List.setIfInBounds_toArray, List.set_cons_zero, List.set_cons_succ, i64_w, i32_w]
                    rfl
                   refine take_ (i := 15) (N := some 92) (v := ?_) (a' := ?_) #[true, true, true, true, true, true, true, true, true, true, true, true, true, true, true, true, true, false, true, true, true, false, false, true, false, true, false, false, false, false, true, false, false, false, false] rfl rfl (take_ofW HT_.out HW_.out (by kernel_rfl)) (fun _ _ _ h => h) (Or.inl ⟨by rfl, ?_⟩) hHeld ?_ ?_
                   rotate_left
                   ·rintro w' ⟨s0, s1, s2, s3, s4, s5⟩
                    go_simp
                    with_reducible rfl
                   rotate_left
                   ·simp only [Act.put, List.setIfInBounds_toArray, List.set_cons_zero, List.set_cons_succ, i64_w, i32_w]
                    rfl
                   refine take_ (i := 17) (N := some 94) (v := ?_) (a' := ?_) #[true, true, true, true, true, true, true, true, true, true, true, true, true, true, true, true, true, true, true, true, true, false, false, true, false, true, false, false, false, false, true, false, false, false, false] rfl rfl (take_ofW HT_.out HW_.out (by kernel_rfl)) (fun _ _ _ h => h) (Or.inl ⟨by rfl, ?_⟩) hHeld ?_ ?_
                   rotate_left
                   ·rintro w' ⟨s0, s1, s2, s3, s4, s5⟩
                    go_simp
                    with_reducible rfl
                   rotate_left
                   ·simp only [Act.put, List.setIfInBounds_toArray, List.set_cons_zero, List.set_cons_succ, i64_w, i32_w]
                    rfl
                   refine take_ (i := 21) (N := some 98) (v := ?_) (a' := ?_) #[true, true, true, true, true, true, true, true, true, true, true, true, true, true, true, true, true, true, true, true, true, true, false, true, false, true, false, false, false, false, true, false, false, false, false] rfl rfl (take_ofW HT_.out HW_.out (by kernel_rfl)) (fun _ _ _ h => h) (Or.inl ⟨by rfl, ?_⟩) hHeld ?_ ?_
                   rotate_left
                   ·rintro w' ⟨s0, s1, s2, s3, s4, s5⟩
                    go_simp
                    with_reducible rfl
                   rotate_left
                   ·simp only [Act.put, List.setIfInBounds_toArray, List.set_cons_zero, List.set_cons_succ, i64_w, i32_w]
                    rfl
                   refine pure_ (i := 22) (N := some 99) (v := ?_) (a' := ?_) #[true, true, true, true, true, true, true, true, true, true, true, true, true, true, true, true, true, true, true, true, true, true, true, true, false, true, false, false, false, false, true, false, false, false, false] rfl rfl (any_of HT_.out (by kernel_rfl)) (fun _ _ _ h => h) (Or.inl ⟨by rfl, ?_⟩) ?_ ?_
                   rotate_left
                   ·intro w'
                    go_simp
                    with_reducible rfl
                   rotate_left
                   ·simp only [Act.put, List.setIfInBounds_toArray, List.set_cons_zero, List.set_cons_succ, i64_w, i32_w]
                    rfl
                   refine take_ (i := 24) (N := some 101) (v := ?_) (a' := ?_) #[true, true, true, true, true, true, true, true, true, true, true, true, true, true, true, true, true, true, true, true, true, true, true, true, true, true, false, false, false, false, true, false, false, false, false] rfl rfl (take_ofW HT_.out HW_.out (by kernel_rfl)) (fun _ _ _ h => h) (Or.inl ⟨by rfl, ?_⟩) hHeld ?_ ?_
                   rotate_left
                   ·rintro w' ⟨s0, s1, s2, s3, s4, s5⟩
                    go_simp
                    with_reducible rfl
                   rotate_left
                   ·simp only [Act.put, List.setIfInBounds_toArray, List.set_cons_zero, List.set_cons_succ, i64_w, i32_w]
                    rfl
                   refine pure_ (i := 26) (N := some 103) (v := ?_) (a' := ?_) #[true, true, true, true, true, true, true, true, true, true, true, true, true, true, true, true, true, true, true, true, true, true, true, true, true, true, true, false, false, false, true, false, false, false, false] rfl rfl (any_of HT_.out (by kernel_rfl)) (fun _ _ _ h => h) (Or.inl ⟨by rfl, ?_⟩) ?_ ?_
                   rotate_left
                   ·intro w'
                    go_simp
                    with_reducible rfl
                   rotate_left
                   ·simp only [Act.put, List.setIfInBounds_toArray, List.set_cons_zero, List.set_cons_succ, i64_w, i32_w]
                    rfl
                   refine take_ (i := 27) (N := some 104) (v := ?_) (a' := ?_) #[true, true, true, true, true, true, true, true, true, true, true, true, true, true, true, true, true, true, true, true, true, true, true, true, true, true, true, true, false, false, true, false, false, false, false] rfl rfl (take_ofW HT_.out HW_.out (by kernel_rfl)) (fun _ _ _ h => h) (Or.inl ⟨by rfl, ?_⟩) hHeld ?_ ?_
                   rotate_left
                   ·rintro w' ⟨s0, s1, s2, s3, s4, s5⟩
                    go_simp
                    with_reducible rfl
                   rotate_left
                   ·simp only [Act.put, List.setIfInBounds_toArray, List.set_cons_zero, List.set_cons_succ, i64_w, i32_w]
                    rfl
                   refine pure_ (i := 28) (N := some 105) (v := ?_) (a' := ?_) #[true, true, true, true, true, true, true, true, true, true, true, true, true, true, true, true, true, true, true, true, true, true, true, true, true, true, true, true, true, false, true, false, false, false, false] rfl rfl (any_of HT_.out (by kernel_rfl)) (fun _ _ _ h => h) (Or.inl ⟨by rfl, ?_⟩) ?_ ?_
                   rotate_left
                   ·intro w'
                    go_simp
                    with_reducible rfl
                   rotate_left
                   ·simp only [Act.put, List.setIfInBounds_toArray, List.set_cons_zero, List.set_cons_succ, i64_w, i32_w]
                    rfl
                   refine pure_ (i := 29) (N := some 106) (v := ?_) (a' := ?_) #[true, true, true, true, true, true, true, true, true, true, true, true, true, true, true, true, true, true, true, true, true, true, true, true, true, true, true, true, true, true, true, false, false, false, false] rfl rfl (any_of HT_.out (by kernel_rfl)) (fun _ _ _ h => h) (Or.inl ⟨by rfl, ?_⟩) ?_ ?_
                   rotate_left
                   ·intro w'
                    go_simp
                    with_reducible rfl
                   rotate_left
                   ·simp only [Act.put, List.setIfInBounds_toArray, List.set_cons_zero, List.set_cons_succ, i64_w, i32_w]
                    rfl
                   refine take_ (i := 31) (N := some 108) (v := ?_) (a' := ?_) #[true, true, true, true, true, true, true, true, true, true, true, true, true, true, true, true, true, true, true, true, true, true, true, true, true, true, true, true, true, true, true, true, false, false, false] rfl rfl (take_ofW HT_.out HW_.out (by kernel_rfl)) (fun _ _ _ h => h) (Or.inl ⟨by rfl, ?_⟩) hHeld ?_ ?_
                   rotate_left
                   ·rintro w' ⟨s0, s1, s2, s3, s4, s5⟩
                    go_simp
                    with_reducible rfl
                   rotate_left
                   ·simp only [Act.put, List.setIfInBounds_toArray, List.set_cons_zero, List.set_cons_succ, i64_w, i32_w]
                    rfl
                   refine pure_ (i := 32) (N := some 109) (v := ?_) (a' := ?_) #[true, true, true, true, true, true, true, true, true, true, true, true, true, true, true, true, true, true, true, true, true, true, true, true, true, true, true, true, true, true, true, true, true, false, false] rfl rfl (any_of HT_.out (by kernel_rfl)) (fun _ _ _ h => h) (Or.inl ⟨by rfl, ?_⟩) ?_ ?_
                   rotate_left
                   ·intro w'
                    go_simp
                    with_reducible rfl
                   rotate_left
                   ·simp only [Act.put, List.setIfInBounds_toArray, List.set_cons_zero, List.set_cons_succ, i64_w, i32_w]
                    rfl
                   refine pure_ (i := 33) (N := some 110) (v := ?_) (a' := ?_) #[true, true, true, true, true, true, true, true, true, true, true, true, true, true, true, true, true, true, true, true, true, true, true, true, true, true, true, true, true, true, true, true, true, true, false] rfl rfl (any_of HT_.out (by kernel_rfl)) (fun _ _ _ h => h) (Or.inl ⟨by rfl, ?_⟩) ?_ ?_
                   rotate_left
                   ·intro w'
                    go_simp
                    with_reducible rfl
                   rotate_left
                   ·simp only [Act.put, List.setIfInBounds_toArray, List.set_cons_zero, List.set_cons_succ, i64_w, i32_w]
                    rfl
                   refine last_ (i := 34) (N := none) #[true, true, true, true, true, true, true, true, true, true, true, true, true, true, true, true, true, true, true, true, true, true, true, true, true, true, true, true, true, true, true, true, true, true, true] rfl rfl (one_of HT_.out (by kernel_rfl)) (by decide) (fun K hK => ?_)
                   refine skip_ (w1 := ?_) (by rfl) rfl ?_ ?_
                   rotate_left
                   ·go_simp
                    rfl
                   refine hK.out _ _ ?_
                   clear hK K
                   refine done_ (done_of HT_.out (by kernel_rfl)) ?_
                   try go_wp2
                   go_roundg k3
                   case measure => have := HK1.out; have := HK2.out; have := HK3.out; omega
                   case rel => exact ⟨(y218), (wrap64 (x13_3 + 1)), (by first | rfl | (simp; done) | (simp [*]; done)), H', ⟨by have := HK1.out; have := HK2.out; have := HK3.out; omega⟩, ⟨by (with_reducible repeat (first | apply Kd.R_alloc | apply Kd.R_drewN | apply Kd.R_drew)); exact HQ52.out⟩, ⟨by (with_reducible repeat (first | refine kN ?_ _ | refine kD ?_ | refine kA ?_ _)); refine blk_far ?_ (by have h_ := Kd.R_ne HO_9.out BK196.out (by decide); intro e_; exact h_ (by rw [e_]; rfl)) _; (with_reducible repeat (first | refine kN ?_ _ | refine kD ?_ | refine kA ?_ _)); exact BK196.out⟩, ⟨by repeat (first | (with_reducible first | exact HB.out | apply bA | apply bN | apply bD | refine bS ?_ GB48.out | refine bS ?_ GE196.out) | exact HB.out)⟩⟩
                 ·rw [if_neg c46] at H
                  exact absurd H (by simp)
                ·rw [if_neg c45] at H
                 exact absurd H (by simp)
               ·rw [if_neg c44] at H
                exact absurd H (by simp)
              ·rw [if_neg c43] at H
               exact absurd H (by simp)
             ·rw [if_neg c42] at H
              exact absurd H (by simp)
            ·rw [if_neg c41] at H
             exact absurd H (by simp)
           ·rw [if_neg c39] at H
            have c39b0 : decide (x13_3 < a0_1) = false := decide_eq_false c39
            clear c39
            have H' := Aside0.mk H
            clear H
            have hcz53_0 : wr.cell? ⟨gb196, 0, none⟩ = some (.int .i64 a0_0) := (kC BK196.out 0).trans rfl
            have hcz53_1 : wr.cell? ⟨gb196, 1, none⟩ = some (.int .i64 a0_1) := (kC BK196.out 1).trans rfl
            have hcz53_2 : wr.cell? ⟨gb196, 2, none⟩ = some (.slice A0_2 l0_2.length c0_2) := (kC BK196.out 2).trans rfl
            have hfz53_0 := kF BK196.out 0
            have hfz53_1 := kF BK196.out 1
            have hfz53_2 := kF BK196.out 2
            go_wp2
            go_roundg k3
            case measure => have := HK1.out; have := HK2.out; have := HK3.out; omega
            case rel => exact ⟨(x9_3), (wrap64 (x12_2 - 1)), (by first | rfl | (simp; done) | (simp [*]; done)), H', ⟨by have := HK1.out; have := HK2.out; have := HK3.out; omega⟩, ⟨by (with_reducible repeat (first | apply Kd.R_alloc | apply Kd.R_drewN | apply Kd.R_drew)); exact HO_9.out⟩, ⟨by (with_reducible repeat (first | refine kN ?_ _ | refine kD ?_ | refine kA ?_ _)); exact BK196.out⟩, ⟨by repeat (first | (with_reducible first | exact HB.out | apply bA | apply bN | apply bD | refine bS ?_ GE196.out) | exact HB.out)⟩⟩
        ·rw [if_neg c37] at H
         have c37b0 : decide (a0_1 ≤ x12_2) = false := decide_eq_false c37
         clear c37
         by_cases c54 : 0 ≤ a0_1
         ·rw [if_pos c54] at H
          have c54b0 := eq_true c54
          have c54b1 : decide (0 ≤ a0_1) = true := decide_eq_true c54
          clear c54
          by_cases c55 : a0_1 ≤ (x9_2.length : Int)
          ·rw [if_pos c55] at H
           have c55b0 := eq_true c55
           have c55b1 : decide (a0_1 ≤ (x9_2.length : Int)) = true := decide_eq_true c55
           clear c55
           obtain ⟨y210, hy210⟩ : ∃ y_ : List Int, y_ = (x9_2.take (a0_1 : Int).toNat) := ⟨_, rfl⟩
           replace H : ((codewrightref04_Value.f k2 a0_0 a0_1 l0_2 y210).bind fun t214 => (some t214)) = some r := by first | (rw [hy210]; with_reducible exact H) | (have H2_ := (Option.bind_some _ _).symm.trans H; rw [hy210]; with_reducible exact H2_) | (have H2_ := (Option.bind_some _ _).symm.trans H; with_reducible exact H2_) | with_reducible exact H | (rw [hy210]; exact H) | exact H
           have Ny210 := Aside0.mk hy210
           clear hy210
           replace H := Option.bind_eq_some_iff.mp H
           obtain ⟨t214, A560, H⟩ := H
           replace H : (some t214) = some r := H
           have A56 := Aside0.mk A560
           clear A560
           obtain rfl := Option.some.inj H
           have hcz57_0 : wr.cell? ⟨gb196, 0, none⟩ = some (.int .i64 a0_0) := (kC BK196.out 0).trans rfl
           have hcz57_1 : wr.cell? ⟨gb196, 1, none⟩ = some (.int .i64 a0_1) := (kC BK196.out 1).trans rfl
           have hcz57_2 : wr.cell? ⟨gb196, 2, none⟩ = some (.slice A0_2 l0_2.length c0_2) := (kC BK196.out 2).trans rfl
           have hfz57_0 := kF BK196.out 0
           have hfz57_1 := kF BK196.out 1
           have hfz57_2 := kF BK196.out 2
           try go_wp2
           have n0_ := Aside0.mk (Kd.R_drew HO_9.out)
           have n1_ := Aside0.mk (kD BK196.out)
           have n2_ := Aside0.mk (bD HB.out)
           clear HO_9
           clear BK196
           clear HB
           have HO_9 := n0_
           have BK196 := n1_
           have HB := n2_
           clear n0_ n1_ n2_
           obtain ⟨Ao60, co60, eo60⟩ := Kd.R_slice HO_9.out
           (first | subst eo60 | (injection eo60 with f1_ f2_ f3_; have f4_ := f1_.symm; have f5_ := f3_.symm; clear f1_ f2_ f3_; subst f4_; subst f5_))
           have q59 : (a0_1 : Int) ≤ ((x9_2.length : Int) : Int) := of_decide_eq_true (by first | (with_reducible assumption) | assumption)
           obtain ⟨i059, hi059, _, hsz59, _⟩ := info_parts info3
           have hroom59 : x9_2.length ≤ co60 := (Kd.R_reads' HO_9.out).2.1
           have hC59 : Kd.C (Kd.int .i64) _ Ao60 x9_2.length x9_2 := (Kd.R_reads' HO_9.out).2.2
           have hcut59 := cut_to (P := Try.prog) 22 3 .i64 Try.underlying22 hi059 Ao60 x9_2.length co60 a0_1 (of_decide_eq_true (by first | (with_reducible assumption) | assumption)) q59 hroom59
           have hr59 := Kd.C_take (m := (a0_1 : Int).toNat) hC59 (by omega)
           have hy59 : y210.length = (a0_1 : Int).toNat := (by rw [Ny210.out, List.length_take]; omega)
           rw [← Ny210.out] at hr59
           rw [← hy59] at hcut59
           have HR213 := Aside0.mk hr59
           have HC213 := Aside0.mk (show y210.length ≤ co60 from by omega)
           clear hr59 hC59 hroom59 hi059 hsz59
           have KY59 := Aside0.mk hy59
           clear hy59
           have KL59 := Aside0.mk (show (a0_1 : Int).toNat ≤ x9_2.length from by omega)
           replace q59 := eq_true q59
           refine start_ (n := 7) (S := fun w' => w'.cell? ⟨gb196, 0, none⟩ = some (.int .i64 a0_0) ∧ w'.cell? ⟨gb196, 1, none⟩ = some (.int .i64 a0_1) ∧ w'.cell? ⟨gb196, 2, none⟩ = some (.slice A0_2 l0_2.length c0_2)) (ds := []) #[false, false, false, false, false, false, false] (by kernel_rfl) rfl rfl ⟨(kC BK196.out 0).trans rfl, (kC BK196.out 1).trans rfl, (kC BK196.out 2).trans rfl⟩ (fun hHeld => ?_)
           generalize wr.drew = w58 at HO_9 BK196 HB HR213 hHeld ⊢
           refine pure_ (i := 1) (N := some 112) (v := ?_) (a' := ?_) #[false, true, false, false, false, false, false] rfl rfl (by kernel_rfl) (fun _ _ _ h => h) (Or.inl ⟨by rfl, ?_⟩) ?_ ?_
           rotate_left
           ·intro w'
            go_simp
            with_reducible rfl
           rotate_left
           ·simp only [Act.put, List.setIfInBounds_toArray, List.set_cons_zero, List.set_cons_succ, i64_w, i32_w]
            rfl
           refine pure_ (i := 2) (N := some 113) (v := ?_) (a' := ?_) #[false, true, true, false, false, false, false] rfl rfl (by kernel_rfl) (fun _ _ _ h => h) (Or.inl ⟨by rfl, ?_⟩) ?_ ?_
           rotate_left
           ·intro w'
            go_simp
            with_reducible rfl
           rotate_left
           ·simp only [Act.put, List.setIfInBounds_toArray, List.set_cons_zero, List.set_cons_succ, i64_w, i32_w]
            rfl
           refine take_ (i := 0) (N := some 111) (v := ?_) (a' := ?_) #[true, true, true, false, false, false, false] rfl rfl (by kernel_rfl) (fun _ _ _ h => h) (Or.inl ⟨by rfl, ?_⟩) hHeld ?_ ?_
           rotate_left
           ·rintro w' ⟨s0, s1, s2⟩
            go_simp
            with_reducible rfl
           rotate_left
           ·simp only [Act.put, List.setIfInBounds_toArray, List.set_cons_zero, List.set_cons_succ, i64_w, i32_w]
            rfl
           refine take_ (i := 3) (N := some 114) (v := ?_) (a' := ?_) #[true, true, true, true, false, false, false] rfl rfl (by kernel_rfl) (fun _ _ _ h => h) (Or.inl ⟨by rfl, ?_⟩) hHeld ?_ ?_
           rotate_left
           ·rintro w' ⟨s0, s1, s2⟩
            go_simp
            with_reducible rfl
           rotate_left
           ·simp only [Act.put, List.setIfInBounds_toArray, List.set_cons_zero, List.set_cons_succ, i64_w, i32_w]
            rfl
           refine pure_ (i := 4) (N := some 115) (v := ?_) (a' := ?_) #[true, true, true, true, true, false, false] rfl rfl (by kernel_rfl) (fun _ _ _ h => h) (Or.inl ⟨by rfl, ?_⟩) ?_ ?_
           rotate_left
           ·intro w'
            go_simp
            with_reducible rfl
           rotate_left
           ·simp only [Act.put, List.setIfInBounds_toArray, List.set_cons_zero, List.set_cons_succ, i64_w, i32_w]
            rfl
           refine one_ (i := 5) (N := some 116) #[true, true, true, true, true, true, false] rfl rfl (by kernel_rfl) (by decide) (fun K hK => ?_)
           refine goes_ Try.func44 (by kernel_rfl) rfl #[.agg #[.int .i64 a0_0, .int .i64 a0_1, .slice A0_2 l0_2.length c0_2], .slice Ao60 y210.length co60] (by rfl) rfl rfl (by (try simp only [List.map_toArray, List.map_cons, List.map_nil]); first | done | rfl | (simp only [List.length_drop, List.length_take]; rfl)) ?_
           with_reducible refine (codewrightref04_Value.calls k2 a0_0 a0_1 _ _ l0_2 _ _ y210 t214 _ ?side1 ?side2 ?side3 ?side4 A56.out).mono ?_
           (case side1 => repeat (first | exact (Kd.C_below HR0_2.out HB.out) | (with_reducible refine Kd.C_alloc ?_ _) | (with_reducible refine Kd.C_drewN ?_ _) | (with_reducible refine Kd.C_drew ?_)))
           (case side2 => exact HC0_2.out)
           (case side3 => repeat (first | exact (by repeat (first | (with_reducible exact HR213.out) | (with_reducible refine Kd.C_alloc ?_ _) | (with_reducible refine Kd.C_drewN ?_ _) | (with_reducible refine Kd.C_drew ?_) | exact HR213.out)) | (with_reducible refine Kd.C_alloc ?_ _) | (with_reducible refine Kd.C_drewN ?_ _) | (with_reducible refine Kd.C_drew ?_)))
           (case side4 => exact HC213.out)
           rintro e w61 ⟨rfl, hb⟩
           refine ⟨_, rfl, ?_⟩
           have n0_ := Aside0.mk (Kd.R_below (by (with_reducible repeat (first | apply Kd.R_alloc | apply Kd.R_drewN | apply Kd.R_drew)); exact HO_9.out) hb)
           have n1_ := Aside0.mk (kB (g := gb196) (o := .cells #[.int .i64 a0_0, .int .i64 a0_1, .slice A0_2 l0_2.length c0_2] 24 (0, 0)) (by (with_reducible repeat (first | refine kN ?_ _ | refine kD ?_ | refine kA ?_ _)); exact BK196.out) hb)
           have n2_ := Aside0.mk (Kd.C_below (by repeat (first | (with_reducible exact HR213.out) | (with_reducible refine Kd.C_alloc ?_ _) | (with_reducible refine Kd.C_drewN ?_ _) | (with_reducible refine Kd.C_drew ?_) | exact HR213.out)) hb)
           have n3_ := Aside0.mk (bP (by repeat (first | (with_reducible first | exact HB.out | apply bA | apply bN | apply bD | refine bS ?_ GE196.out) | exact HB.out)) hb)
           clear HO_9
           clear BK196
           clear HR213
           clear HB
           have HO_9 := n0_
           have BK196 := n1_
           have HR213 := n2_
           have HB := n3_
           clear n0_ n1_ n2_ n3_
           (try clear hb)
           (try clear hb2)
           (try clear hk)
           (try clear hi)
           refine hK.out _ _ ⟨(kC BK196.out 0).trans rfl, (kC BK196.out 1).trans rfl, (kC BK196.out 2).trans rfl⟩ (fun hHeld => ?_)
           clear hK K
           refine norm_ (a' := ?_) ?_ ?_
           rotate_left
           ·show Act.put _ (some 116) _ = _
            simp only [Act.put, List.setIfInBounds_toArray, List.set_cons_zero, List.set_cons_succ, i64_w, i32_w]
            rfl
           refine pure_ (i := 6) (N := some 6) (v := ?_) (a' := ?_) #[true, true, true, true, true, true, true] rfl rfl (by kernel_rfl) (fun _ _ _ h => h) (Or.inl ⟨by rfl, ?_⟩) ?_ ?_
           rotate_left
           ·intro w'
            go_simp
            with_reducible rfl
           rotate_left
           ·simp only [Act.put, List.setIfInBounds_toArray, List.set_cons_zero, List.set_cons_succ, i64_w, i32_w]
            rfl
           refine done_ (by kernel_rfl) ?_
           try go_wp2
           go_ret
           exact ⟨by first | rfl | (simp [eN, eS] <;> rfl) | (simp only [← hji6]; first | rfl | (simp [eN, eS] <;> rfl)) | (simp [*, eN, eS] <;> rfl), by repeat (first | (with_reducible first | exact HB.out | apply bA | apply bN | apply bD | refine bS ?_ GE196.out) | exact HB.out)⟩
          ·rw [if_neg c55] at H
           exact absurd H (by simp)
         ·rw [if_neg c54] at H
          exact absurd H (by simp)
  ·rw [if_neg c8] at H
   exact absurd H (by simp)
 ·rw [if_neg c7] at H
  exact absurd H (by simp)
end
end Go.Proofs.Ytoambdpchjeklaa.P
end
-- Pa7
section
namespace Go.Proofs.Ytoambdpchjeklaa.P
noncomputable section
open Go.RowKit Go.Proofs.Ytoambdpchjeklaa.Hand Go.Proofs.YtoambdpchjeklaaW.PrintWords Go.Proofs.YtoambdpchjeklaaW.PrintLast Go.Proofs.YtoambdpchjeklaaW.PrintMore
set_option linter.unusedVariables false
set_option linter.unusedSimpArgs false
mutual
def codewrightref04_Pow.j0 : Nat → Int → Int → Bool → Int → Int → List Int → Option (Int × Int)
 | 0, _, _, _, _, _, _ => none
 | k + 1, x1, x2, x21, x220000, x220001, x220002 => if x21 = true then (some (0, 7)) else (if x1 = 0 then (some (0, 0)) else ((codewrightref04_Order.f k x220000 x220001 x220002).bind fun t221 => (if (wrap64 (t221 - 1)) = 0 then (none) else (codewrightref04_Pow.l0 k x1 (Int.tmod (wrap64 ((Int.tmod x2 (wrap64 (t221 - 1))) + (wrap64 (t221 - 1)))) (wrap64 (t221 - 1))) 1 0 x220000 x220001 x220002))))
def codewrightref04_Pow.l0 : Nat → Int → Int → Int → Int → Int → Int → List Int → Option (Int × Int)
 | 0, _, _, _, _, _, _, _ => none
 | k + 1, x1, x2, x9, x10, x220000, x220001, x220002 => if x10 < x2 then ((codewrightref04_Mul.f k x220000 x220001 x220002 x9 x1).bind fun t222 => (codewrightref04_Pow.l0 k x1 x2 t222 (wrap64 (x10 + 1)) x220000 x220001 x220002)) else (some (x9, 0))
end
def codewrightref04_Pow.f (k : Nat) (a0_0 : Int) (a0_1 : Int) (l0_2 : List Int) (a1 : Int) (a2 : Int) : Option (Int × Int) := (codewrightref04_In.f k a0_0 a0_1 l0_2 a1).bind fun t220 => (if a2 = 0 then (some (1, 0)) else (if t220 = 0 then (codewrightref04_Pow.j0 k t220 a2 (decide (a2 < 0)) a0_0 a0_1 l0_2) else (codewrightref04_Pow.j0 k t220 a2 false a0_0 a0_1 l0_2)))
def codewrightref07_Frobenius.l0 : Nat → Int → Int → Int → Int → Int → List Int → Option (Int)
 | 0, _, _, _, _, _, _ => none
 | k + 1, x1, x2, x7, x224000, x224001, x224002 => if x7 < x2 then ((codewrightref04_Pow.f k x224000 x224001 x224002 x1 x224000).bind fun bt225 => (codewrightref07_Frobenius.l0 k bt225.1 x2 (wrap64 (x7 + 1)) x224000 x224001 x224002)) else (some x1)
def codewrightref07_Frobenius.f (k : Nat) (a0_0 : Int) (a0_1 : Int) (l0_2 : List Int) (a1 : Int) (a2 : Int) : Option (Int) := (codewrightref04_In.f k a0_0 a0_1 l0_2 a1).bind fun t224 => (codewrightref07_Frobenius.l0 k t224 a2 0 a0_0 a0_1 l0_2)
def codewrightref04_Add.l0 : Nat → List Int → List Int → Int → Int → Int → List Int → Option (Int)
 | 0, _, _, _, _, _, _ => none
 | k + 1, x7, x8, x9, x229000, x229001, x229002 => if x9 < (x7.length : Int) then (if 0 ≤ x9 then (if x9 < (x8.length : Int) then (if x229000 = 0 then (none) else (codewrightref04_Add.l0 k (x7.set (x9 : Int).toNat (Int.tmod (wrap64 ((rd x7 x9) + (rd x8 x9))) x229000)) x8 (wrap64 (x9 + 1)) x229000 x229001 x229002)) else (none)) else (none)) else ((codewrightref04_Value.f k x229000 x229001 x229002 x7).bind fun t238 => (some t238))
def codewrightref04_Add.f (k : Nat) (a0_0 : Int) (a0_1 : Int) (l0_2 : List Int) (a1 : Int) (a2 : Int) : Option (Int) := (codewrightref04_Digits.f k a0_0 a0_1 l0_2 a1).bind fun t229 => ((codewrightref04_Digits.f k a0_0 a0_1 l0_2 a2).bind fun t232 => (codewrightref04_Add.l0 k t229 t232 0 a0_0 a0_1 l0_2))
def codewrightref04_Add.T6 : Bool × List (List Nat × List Nat) := (true, [([], []), ([], []), ([], []), ([], []), ([2, 3], [2, 3]), ([4], [4]), ([], []), ([], []), ([6, 7], [6, 7]), ([8], [8]), ([5, 9], [5, 9]), ([], []), ([11], [11]), ([10, 12], [10, 12]), ([0, 1, 0, 1, 2, 3, 4, 5, 6, 7, 8, 9, 10, 11, 12, 13], [0, 1]), ([14, 13, 0, 1, 2, 3, 4, 5, 6, 7, 8, 9, 10, 11, 12, 13], [13, 14])])
def codewrightref04_Add.B6 : List Nat := [0, 0, 0, 0, 12, 28, 0, 0, 192, 448, 1020, 0, 2048, 8188, 16383, 32767]
theorem codewrightref04_Add.tab6 : rtab .any (opsOf Try.f17 6) = codewrightref04_Add.T6 := by kernel_rfl
theorem codewrightref04_Add.bits6 : waitsOk codewrightref04_Add.T6.2 codewrightref04_Add.B6 = true := by kernel_rfl
set_option maxHeartbeats 8000000 in
set_option maxRecDepth 100000 in
theorem codewrightref04_Add.calls (k : Nat) (a0_0 : Int) (a0_1 : Int) (A0_2 : Option Addr) (c0_2 : Nat) (l0_2 : List Int) (a1 : Int) (a2 : Int) (r : Int) (w : World) (hr0_2 : Kd.C (Kd.int .i64) w A0_2 l0_2.length l0_2) (hc0_2 : l0_2.length ≤ c0_2) (h : codewrightref04_Add.f k a0_0 a0_1 l0_2 a1 a2 = some r) :
  Calls Try.prog 17 #[.agg #[.int .i64 a0_0, .int .i64 a0_1, .slice A0_2 l0_2.length c0_2], .int .i64 a1, .int .i64 a2] w fun e w' => e = .returned (.int .i64 r) ∧ Below w.heap.size w w' := by
 have hu24 := Try.underlying24
 have HR0_2 := Aside0.mk hr0_2
 have HC0_2 := Aside0.mk hc0_2
 clear hr0_2 hc0_2
 have HB := Aside0.mk (Below.refl w.heap.size w)
 have H : ((codewrightref04_Digits.f k a0_0 a0_1 l0_2 a1).bind fun t229 => ((codewrightref04_Digits.f k a0_0 a0_1 l0_2 a2).bind fun t232 => (codewrightref04_Add.l0 k t229 t232 0 a0_0 a0_1 l0_2))) = some r := h
 clear h
 replace H := Option.bind_eq_some_iff.mp H
 obtain ⟨t229, A40, H⟩ := H
 replace H : ((codewrightref04_Digits.f k a0_0 a0_1 l0_2 a2).bind fun t232 => (codewrightref04_Add.l0 k t229 t232 0 a0_0 a0_1 l0_2)) = some r := H
 have A4 := Aside0.mk A40
 clear A40
 replace H := Option.bind_eq_some_iff.mp H
 obtain ⟨t232, A50, H⟩ := H
 replace H : (codewrightref04_Add.l0 k t229 t232 0 a0_0 a0_1 l0_2) = some r := H
 have A5 := Aside0.mk A50
 clear A50
 have H' := Aside0.mk H
 clear H
 go_enter Try.func17, Try.ntmps17
 go_wp2_with (first | ((with_reducible refine gate_dst (N := 3) rfl ?_); refine box_event ?hg (N := 3) ?hd (cs := #[.int .i64 a0_0, .int .i64 a0_1, .slice A0_2 l0_2.length c0_2]) (t := 24) ?hr ?_; (case hd => rfl); (case hg => rfl); (case hr => first | (go_simp; done) | (go_simp; rfl)); intro gb228 hg w6 hbox hb; have n0_ := Aside0.mk (bP (by repeat (first | (with_reducible first | exact HB.out | apply bA | apply bN | apply bD) | exact HB.out)) hb); have n1_ := Aside0.mk (hbox); have n2_ := Aside0.mk ((by rw [hg]; exact (bZ (by repeat (first | (with_reducible first | exact HB.out | apply bA | apply bN | apply bD) | exact HB.out))) : w.heap.size ≤ gb228)); have n3_ := Aside0.mk ((by rw [hg]; exact (bZ (by repeat (first | (with_reducible first | exact HB.out | apply bA | apply bN | apply bD) | exact HB.out))) : w.heap.size ≤ gb228)); clear HB; have HB := n0_; have BK228 := n1_; have GW228 := n2_; have GE228 := n3_; clear n0_ n1_ n2_ n3_; clear hb hbox hg; have hcz7_0 : w6.cell? ⟨gb228, 0, none⟩ = some (.int .i64 a0_0) := (kC BK228.out 0).trans rfl; have hcz7_1 : w6.cell? ⟨gb228, 1, none⟩ = some (.int .i64 a0_1) := (kC BK228.out 1).trans rfl; have hcz7_2 : w6.cell? ⟨gb228, 2, none⟩ = some (.slice A0_2 l0_2.length c0_2) := (kC BK228.out 2).trans rfl; have hfz7_0 := kF BK228.out 0; have hfz7_1 := kF BK228.out 1; have hfz7_2 := kF BK228.out 2) | ((with_reducible refine gate_callee (f := 43) rfl ?_); refine goesL_ (some 12) rfl rfl Try.func43 (by kernel_rfl) rfl #[.agg #[.int .i64 a0_0, .int .i64 a0_1, .slice A0_2 l0_2.length c0_2], .int .i64 a1] rfl (by (try simp only [List.map_toArray, List.map_cons, List.map_nil]); first | done | rfl | (simp only [List.length_drop, List.length_take]; rfl)) ?_; (with_reducible refine (codewrightref04_Digits.calls k a0_0 a0_1 _ _ l0_2 a1 t229 _ ?side1 ?side2 A4.out).mono ?_); (case side1 => repeat (first | exact (Kd.C_below HR0_2.out HB.out) | (with_reducible refine Kd.C_alloc ?_ _) | (with_reducible refine Kd.C_drewN ?_ _) | (with_reducible refine Kd.C_drew ?_))); (case side2 => exact HC0_2.out); rintro e w8 ⟨v230, rfl, ho0, hb⟩; refine ⟨_, rfl, ?_⟩; have n0_ := Aside0.mk (Kd.R_lower ho0 (bZ (by repeat (first | (with_reducible first | exact HB.out | apply bA | apply bN | apply bD | refine bS ?_ GE228.out) | exact HB.out)))); have n1_ := Aside0.mk (kB (g := gb228) (o := .cells #[.int .i64 a0_0, .int .i64 a0_1, .slice A0_2 l0_2.length c0_2] 24 (0, 0)) (by (with_reducible repeat (first | refine kN ?_ _ | refine kD ?_ | refine kA ?_ _)); exact BK228.out) hb); have n2_ := Aside0.mk (bP (by repeat (first | (with_reducible first | exact HB.out | apply bA | apply bN | apply bD | refine bS ?_ GE228.out) | exact HB.out)) hb); clear BK228; clear HB; have HO231 := n0_; have BK228 := n1_; have HB := n2_; clear n0_ n1_ n2_; (try clear hb); (try clear hb2); (try clear hk); (try clear hi); (try clear ho0); have hcz9_0 : w8.cell? ⟨gb228, 0, none⟩ = some (.int .i64 a0_0) := (kC BK228.out 0).trans rfl; have hcz9_1 : w8.cell? ⟨gb228, 1, none⟩ = some (.int .i64 a0_1) := (kC BK228.out 1).trans rfl; have hcz9_2 : w8.cell? ⟨gb228, 2, none⟩ = some (.slice A0_2 l0_2.length c0_2) := (kC BK228.out 2).trans rfl; have hfz9_0 := kF BK228.out 0; have hfz9_1 := kF BK228.out 1; have hfz9_2 := kF BK228.out 2) | ((with_reducible refine gate_callee (f := 43) rfl ?_); refine goesL_ (some 15) rfl rfl Try.func43 (by kernel_rfl) rfl #[.agg #[.int .i64 a0_0, .int .i64 a0_1, .slice A0_2 l0_2.length c0_2], .int .i64 a2] rfl (by (try simp only [List.map_toArray, List.map_cons, List.map_nil]); first | done | rfl | (simp only [List.length_drop, List.length_take]; rfl)) ?_; (with_reducible refine (codewrightref04_Digits.calls k a0_0 a0_1 _ _ l0_2 a2 t232 _ ?side1 ?side2 A5.out).mono ?_); (case side1 => repeat (first | exact (Kd.C_below HR0_2.out HB.out) | (with_reducible refine Kd.C_alloc ?_ _) | (with_reducible refine Kd.C_drewN ?_ _) | (with_reducible refine Kd.C_drew ?_))); (case side2 => exact HC0_2.out); rintro e w10 ⟨v233, rfl, ho0, hb⟩; refine ⟨_, rfl, ?_⟩; have n0_ := Aside0.mk (Kd.R_elder' (by (with_reducible repeat (first | apply Kd.R_alloc | apply Kd.R_drewN | apply Kd.R_drew)); exact HO231.out) (Kd.R_base ho0) hb); have n1_ := Aside0.mk (Kd.R_lower (Kd.R_new' ho0 (Kd.R_lt (by (with_reducible repeat (first | apply Kd.R_alloc | apply Kd.R_drewN | apply Kd.R_drew)); exact HO231.out))) (bZ (by repeat (first | (with_reducible first | exact HB.out | apply bA | apply bN | apply bD | refine bS ?_ GE228.out) | exact HB.out)))); have n2_ := Aside0.mk (kB (g := gb228) (o := .cells #[.int .i64 a0_0, .int .i64 a0_1, .slice A0_2 l0_2.length c0_2] 24 (0, 0)) (by (with_reducible repeat (first | refine kN ?_ _ | refine kD ?_ | refine kA ?_ _)); exact BK228.out) hb); have n3_ := Aside0.mk (bP (by repeat (first | (with_reducible first | exact HB.out | apply bA | apply bN | apply bD | refine bS ?_ GE228.out) | exact HB.out)) hb); clear HO231; clear BK228; clear HB; have HO231 := n0_; have HO234 := n1_; have BK228 := n2_; have HB := n3_; clear n0_ n1_ n2_ n3_; (try clear hb); (try clear hb2); (try clear hk); (try clear hi); (try clear ho0)))
 go_loopg [9] k (fun kq v9 w' => ∃ (x7_1 : List Int) (x9_1 : Int), v9 = .int .i64 x9_1 ∧ Aside0 (codewrightref04_Add.l0 kq x7_1 t232 x9_1 a0_0 a0_1 l0_2 = some r) ∧ Aside0 (kq ≤ k) ∧ Aside0 (Kd.R (Kd.int .i64) 3 w' w.heap.size (fun k_ => some k_ ≠ (v233 : Value).ownBlock) v230 x7_1) ∧ Aside0 (Kd.R (Kd.int .i64) 3 w' w.heap.size (fun k_ => some k_ ≠ (v230 : Value).ownBlock) v233 t232) ∧ Aside0 (w'.heap[gb228]? = some (.cells #[.int .i64 a0_0, .int .i64 a0_1, (.slice A0_2 l0_2.length c0_2)] 24 (0, 0))) ∧ Aside0 (Below w.heap.size w w'))
 case atStart => exact ⟨(t229), (0), (by first | rfl | (simp; done) | (simp [*]; done)), H', ⟨Nat.le_refl _⟩, ⟨by (with_reducible repeat (first | apply Kd.R_alloc | apply Kd.R_drewN | apply Kd.R_drew)); exact Kd.R_mono HO231.out (fun _ hk => hk.2)⟩, ⟨by (with_reducible repeat (first | apply Kd.R_alloc | apply Kd.R_drewN | apply Kd.R_drew)); exact Kd.R_mono HO234.out (fun _ hk => hk.2)⟩, ⟨by (with_reducible repeat (first | refine kN ?_ _ | refine kD ?_ | refine kA ?_ _)); exact BK228.out⟩, ⟨by repeat (first | (with_reducible first | exact HB.out | apply bA | apply bN | apply bD | refine bS ?_ GE228.out) | exact HB.out)⟩⟩
 case round =>
  clear H'
  try clear c1
  try clear p2
  try clear c4
  try clear hcz7_0
  try clear hcz7_1
  try clear hcz7_2
  try clear hcz9_0
  try clear hcz9_1
  try clear hcz9_2
  try clear hfz7_0
  try clear hfz7_1
  try clear hfz7_2
  try clear hfz9_0
  try clear hfz9_1
  try clear hfz9_2
  obtain ⟨x7_1, x9_1, rfl, HA, HK1, HO_7, HO_8, BK228, HB⟩ := hrel
  cases gk with
  | zero => exact absurd HA.out (by simp [codewrightref04_Add.l0])
  | succ k1 =>
   have H := HA.out
   clear HA
   simp only [codewrightref04_Add.l0] at H
   by_cases c11 : x9_1 < (x7_1.length : Int)
   ·rw [if_pos c11] at H
    have c11b0 : decide (x9_1 < (x7_1.length : Int)) = true := decide_eq_true c11
    clear c11
    by_cases c12 : 0 ≤ x9_1
    ·rw [if_pos c12] at H
     have c12b0 : decide (0 ≤ x9_1) = true := decide_eq_true c12
     clear c12
     by_cases c13 : x9_1 < (t232.length : Int)
     ·rw [if_pos c13] at H
      have c13b0 : decide (x9_1 < (t232.length : Int)) = true := decide_eq_true c13
      clear c13
      by_cases c14 : a0_0 = 0
      ·rw [if_pos c14] at H
       exact absurd H (by simp)
      ·rw [if_neg c14] at H
       have c14b0 : (a0_0 == 0) = false := beq_eq_false_iff_ne.mpr c14
       have c14b1 : (a0_0 != 0) = true := bne_iff_ne.mpr c14
       obtain ⟨y237, hy237⟩ : ∃ y_ : List Int, y_ = (x7_1.set (x9_1 : Int).toNat (Int.tmod (wrap64 ((rd x7_1 x9_1) + (rd t232 x9_1))) a0_0)) := ⟨_, rfl⟩
       replace H : (codewrightref04_Add.l0 k1 y237 t232 (wrap64 (x9_1 + 1)) a0_0 a0_1 l0_2) = some r := by first | (rw [hy237]; with_reducible exact H) | (have H2_ := (Option.bind_some _ _).symm.trans H; rw [hy237]; with_reducible exact H2_) | (have H2_ := (Option.bind_some _ _).symm.trans H; with_reducible exact H2_) | with_reducible exact H | (rw [hy237]; exact H) | exact H
       have Ny237 := Aside0.mk hy237
       clear hy237
       have H' := Aside0.mk H
       clear H
       obtain ⟨Ao16, co16, eo16⟩ := Kd.R_slice HO_7.out
       subst eo16
       try go_wp2
       have n0_ := Aside0.mk (Kd.R_drew HO_7.out)
       have n1_ := Aside0.mk (Kd.R_drew HO_8.out)
       have n2_ := Aside0.mk (kD BK228.out)
       have n3_ := Aside0.mk (bD HB.out)
       clear HO_7
       clear HO_8
       clear BK228
       clear HB
       have HO_7 := n0_
       have HO_8 := n1_
       have BK228 := n2_
       have HB := n3_
       clear n0_ n1_ n2_ n3_
       have p235 : 0 ≤ (x9_1 : Int) := of_decide_eq_true (by first | (with_reducible assumption) | assumption)
       have q235 : x9_1 < (x7_1.length : Int) := of_decide_eq_true (by first | (with_reducible assumption) | assumption)
       obtain ⟨ad235, e235, hx235_0⟩ := Kd.at_int (Kd.R_reads' HO_7.out).2.2 x9_1 p235 q235
       cases e235
       replace p235 := eq_true p235
       replace q235 := eq_true q235
       obtain ⟨Ao18, co18, eo18⟩ := Kd.R_slice HO_8.out
       (first | subst eo18 | (injection eo18 with f1_ f2_ f3_; have f4_ := f1_.symm; have f5_ := f3_.symm; clear f1_ f2_ f3_; subst f4_; subst f5_))
       have p236 : 0 ≤ (x9_1 : Int) := of_decide_eq_true (by first | (with_reducible assumption) | assumption)
       have q236 : x9_1 < (t232.length : Int) := of_decide_eq_true (by first | (with_reducible assumption) | assumption)
       obtain ⟨ad236, e236, hx236_0⟩ := Kd.at_int (Kd.R_reads' HO_8.out).2.2 x9_1 p236 q236
       cases e236
       replace p236 := eq_true p236
       replace q236 := eq_true q236
       have p15 : 0 ≤ (x9_1 : Int) := of_decide_eq_true (by first | (with_reducible assumption) | assumption)
       have q15 : (x9_1 : Int) < ((x7_1.length : Int) : Int) := of_decide_eq_true (by first | (with_reducible assumption) | assumption)
       obtain ⟨go15, co15, eo15, gb15, gl15, cl15, HG15⟩ := Kd.R_form HO_7.out (by omega)
       (first | cases eo15 | (injection eo15 with ea_ en_ ec_; (first | subst ea_ | (injection ea_ with ea_; subst ea_)); subst ec_; clear en_))
       have GB15 := Aside0.mk gb15
       have GG15 := Aside0.mk HG15
       clear gb15 gl15 HG15
       (first | simp only [add_plain] at hx235_0 | skip)
       obtain ⟨hx15_0, hf15_0⟩ := Kd.R_celln 0 HO_7.out (x9_1 : Int) p15 q15
       replace p15 := eq_true p15
       replace q15 := eq_true q15
       have HP19 := Kd.R_putn HO_7.out (x9_1 : Int) (Int.tmod (wrap64 ((rd x7_1 x9_1) + (rd t232 x9_1))) a0_0)
       rw [← Ny237.out] at HP19
       have HQ19 := Aside0.mk HP19
       clear HP19
       refine start_ (n := 16) (S := fun w' => w'.cell? ⟨gb228, 0, none⟩ = some (.int .i64 a0_0) ∧ w'.cell? ⟨gb228, 1, none⟩ = some (.int .i64 a0_1) ∧ w'.cell? ⟨gb228, 2, none⟩ = some (.slice A0_2 l0_2.length c0_2) ∧ w'.cell? ⟨go15, (x9_1).toNat, none⟩ = some (.int .i64 (rd x7_1 x9_1)) ∧ w'.cell? (ad236.add (x9_1).toNat) = some (.int .i64 (rd t232 x9_1))) (ds := [15]) #[false, false, false, false, false, false, false, false, false, false, false, false, false, false, false, false] (by kernel_rfl) rfl rfl ⟨(kC BK228.out 0).trans rfl, (kC BK228.out 1).trans rfl, (kC BK228.out 2).trans rfl, hx235_0, hx236_0⟩ (fun hHeld => ?_); refine with_tabW codewrightref04_Add.tab6 codewrightref04_Add.bits6 (fun HT_ HW_ => ?_)
       generalize wr.drew = w17 at HO_7 HO_8 BK228 HB GG15 HQ19 hf15_0 hx15_0 hx235_0 hx236_0 hHeld ⊢
       refine pure_ (i := 0) (N := some 22) (v := ?_) (a' := ?_) #[true, false, false, false, false, false, false, false, false, false, false, false, false, false, false, false] rfl rfl (any_of HT_.out (by kernel_rfl)) (fun _ _ _ h => h) (Or.inl ⟨by rfl, ?_⟩) ?_ ?_
       rotate_left
       ·intro w'
        go_simp
        with_reducible rfl
       rotate_left
       ·simp only [Act.put, List.setIfInBounds_toArray, List.set_cons_zero, List.set_cons_succ, i64_w, i32_w]
        rfl
       refine pure_ (i := 1) (N := some 23) (v := ?_) (a' := ?_) #[true, true, false, false, false, false, false, false, false, false, false, false, false, false, false, false] rfl rfl (any_of HT_.out (by kernel_rfl)) (fun _ _ _ h => h) (Or.inl ⟨by rfl, ?_⟩) ?_ ?_
       rotate_left
       ·intro w'
        go_simp
        with_reducible rfl
       rotate_left
       ·simp only [Act.put, List.setIfInBounds_toArray, List.set_cons_zero, List.set_cons_succ, i64_w, i32_w]
        rfl
       refine pure_ (i := 2) (N := some 24) (v := ?_) (a' := ?_) #[true, true, true, false, false, false, false, false, false, false, false, false, false, false, false, false] rfl rfl (any_of HT_.out (by kernel_rfl)) (fun _ _ _ h => h) (Or.inl ⟨by rfl, ?_⟩) ?_ ?_
       rotate_left
       ·intro w'
        go_simp
        with_reducible rfl
       rotate_left
       ·simp only [Act.put, List.setIfInBounds_toArray, List.set_cons_zero, List.set_cons_succ, i64_w, i32_w]
        rfl
       refine pure_ (i := 3) (N := some 25) (v := ?_) (a' := ?_) #[true, true, true, true, false, false, false, false, false, false, false, false, false, false, false, false] rfl rfl (any_of HT_.out (by kernel_rfl)) (fun _ _ _ h => h) (Or.inl ⟨by rfl, ?_⟩) ?_ ?_
       rotate_left
       ·intro w'
        go_simp
        with_reducible rfl
       rotate_left
       ·simp only [Act.put, List.setIfInBounds_toArray, List.set_cons_zero, List.set_cons_succ, i64_w, i32_w]
        rfl
       refine pure_ (i := 4) (N := some 26) (v := ?_) (a' := ?_) #[true, true, true, true, true, false, false, false, false, false, false, false, false, false, false, false] rfl rfl (any_of HT_.out (by kernel_rfl)) (fun _ _ _ h => h) (Or.inl ⟨by rfl, ?_⟩) ?_ ?_
       rotate_left
       ·intro w'
        go_simp
        with_reducible rfl
       rotate_left
       ·simp only [Act.put, List.setIfInBounds_toArray, List.set_cons_zero, List.set_cons_succ, i64_w, i32_w]
        rfl
       refine pure_ (i := 6) (N := some 28) (v := ?_) (a' := ?_) #[true, true, true, true, true, false, true, false, false, false, false, false, false, false, false, false] rfl rfl (any_of HT_.out (by kernel_rfl)) (fun _ _ _ h => h) (Or.inl ⟨by rfl, ?_⟩) ?_ ?_
       rotate_left
       ·intro w'
        go_simp
        with_reducible rfl
       rotate_left
       ·simp only [Act.put, List.setIfInBounds_toArray, List.set_cons_zero, List.set_cons_succ, i64_w, i32_w]
        rfl
       refine pure_ (i := 7) (N := some 29) (v := ?_) (a' := ?_) #[true, true, true, true, true, false, true, true, false, false, false, false, false, false, false, false] rfl rfl (any_of HT_.out (by kernel_rfl)) (fun _ _ _ h => h) (Or.inl ⟨by rfl, ?_⟩) ?_ ?_
       rotate_left
       ·intro w'
        go_simp
        with_reducible rfl
       rotate_left
       ·simp only [Act.put, List.setIfInBounds_toArray, List.set_cons_zero, List.set_cons_succ, i64_w, i32_w]
        rfl
       refine pure_ (i := 8) (N := some 30) (v := ?_) (a' := ?_) #[true, true, true, true, true, false, true, true, true, false, false, false, false, false, false, false] rfl rfl (any_of HT_.out (by kernel_rfl)) (fun _ _ _ h => h) (Or.inl ⟨by rfl, ?_⟩) ?_ ?_
       rotate_left
       ·intro w'
        go_simp
        with_reducible rfl
       rotate_left
       ·simp only [Act.put, List.setIfInBounds_toArray, List.set_cons_zero, List.set_cons_succ, i64_w, i32_w]
        rfl
       refine pure_ (i := 11) (N := some 33) (v := ?_) (a' := ?_) #[true, true, true, true, true, false, true, true, true, false, false, true, false, false, false, false] rfl rfl (any_of HT_.out (by kernel_rfl)) (fun _ _ _ h => h) (Or.inl ⟨by rfl, ?_⟩) ?_ ?_
       rotate_left
       ·intro w'
        go_simp
        with_reducible rfl
       rotate_left
       ·simp only [Act.put, List.setIfInBounds_toArray, List.set_cons_zero, List.set_cons_succ, i64_w, i32_w]
        rfl
       refine take_ (i := 5) (N := some 27) (v := ?_) (a' := ?_) #[true, true, true, true, true, true, true, true, true, false, false, true, false, false, false, false] rfl rfl (take_ofW HT_.out HW_.out (by kernel_rfl)) (fun _ _ _ h => h) (Or.inl ⟨by rfl, ?_⟩) hHeld ?_ ?_
       rotate_left
       ·rintro w' ⟨s0, s1, s2, s3, s4⟩
        go_simp
        with_reducible rfl
       rotate_left
       ·simp only [Act.put, List.setIfInBounds_toArray, List.set_cons_zero, List.set_cons_succ, i64_w, i32_w]
        rfl
       refine take_ (i := 9) (N := some 31) (v := ?_) (a' := ?_) #[true, true, true, true, true, true, true, true, true, true, false, true, false, false, false, false] rfl rfl (take_ofW HT_.out HW_.out (by kernel_rfl)) (fun _ _ _ h => h) (Or.inl ⟨by rfl, ?_⟩) hHeld ?_ ?_
       rotate_left
       ·rintro w' ⟨s0, s1, s2, s3, s4⟩
        go_simp
        with_reducible rfl
       rotate_left
       ·simp only [Act.put, List.setIfInBounds_toArray, List.set_cons_zero, List.set_cons_succ, i64_w, i32_w]
        rfl
       refine pure_ (i := 10) (N := some 32) (v := ?_) (a' := ?_) #[true, true, true, true, true, true, true, true, true, true, true, true, false, false, false, false] rfl rfl (any_of HT_.out (by kernel_rfl)) (fun _ _ _ h => h) (Or.inl ⟨by rfl, ?_⟩) ?_ ?_
       rotate_left
       ·intro w'
        go_simp
        with_reducible rfl
       rotate_left
       ·simp only [Act.put, List.setIfInBounds_toArray, List.set_cons_zero, List.set_cons_succ, i64_w, i32_w]
        rfl
       refine take_ (i := 12) (N := some 34) (v := ?_) (a' := ?_) #[true, true, true, true, true, true, true, true, true, true, true, true, true, false, false, false] rfl rfl (take_ofW HT_.out HW_.out (by kernel_rfl)) (fun _ _ _ h => h) (Or.inl ⟨by rfl, ?_⟩) hHeld ?_ ?_
       rotate_left
       ·rintro w' ⟨s0, s1, s2, s3, s4⟩
        go_simp
        with_reducible rfl
       rotate_left
       ·simp only [Act.put, List.setIfInBounds_toArray, List.set_cons_zero, List.set_cons_succ, i64_w, i32_w]
        rfl
       refine pure_ (i := 13) (N := some 35) (v := ?_) (a' := ?_) #[true, true, true, true, true, true, true, true, true, true, true, true, true, true, false, false] rfl rfl (any_of HT_.out (by kernel_rfl)) (fun _ _ _ h => h) (Or.inl ⟨by rfl, ?_⟩) ?_ ?_
       rotate_left
       ·intro w'
        go_simp
        with_reducible rfl
       rotate_left
       ·simp only [Act.put, List.setIfInBounds_toArray, List.set_cons_zero, List.set_cons_succ, i64_w, i32_w]
        rfl
       refine pure_ (i := 14) (N := some 36) (v := ?_) (a' := ?_) #[true, true, true, true, true, true, true, true, true, true, true, true, true, true, true, false] rfl rfl (any_of HT_.out (by kernel_rfl)) (fun _ _ _ h => h) (Or.inl ⟨by rfl, ?_⟩) ?_ ?_
       rotate_left
       ·intro w'
        go_simp
        with_reducible rfl
       rotate_left
       ·simp only [Act.put, List.setIfInBounds_toArray, List.set_cons_zero, List.set_cons_succ, i64_w, i32_w]
        rfl
       refine last_ (i := 15) (N := none) #[true, true, true, true, true, true, true, true, true, true, true, true, true, true, true, true] rfl rfl (one_of HT_.out (by kernel_rfl)) (by decide) (fun K hK => ?_)
       refine skip_ (w1 := ?_) (by rfl) rfl ?_ ?_
       rotate_left
       ·go_simp
        rfl
       refine hK.out _ _ ?_
       clear hK K
       refine done_ (done_of HT_.out (by kernel_rfl)) ?_
       try go_wp2
       go_roundg k1
       case measure => have := HK1.out; omega
       case rel => exact ⟨(y237), (wrap64 (x9_1 + 1)), (by first | rfl | (simp; done) | (simp [*]; done)), H', ⟨by have := HK1.out; omega⟩, ⟨by (with_reducible repeat (first | apply Kd.R_alloc | apply Kd.R_drewN | apply Kd.R_drew)); exact HQ19.out⟩, ⟨by (with_reducible repeat (first | apply Kd.R_alloc | apply Kd.R_drewN | apply Kd.R_drew)); exact Kd.R_mono (Kd.R_far (p := ⟨go15, (x9_1 : Int).toNat, none⟩) (Kd.R_mono HO_8.out (fun k_ hk => (⟨hk, fun e_ => hk (by rw [e_]; rfl)⟩ : _ ∧ k_ ≠ go15))) (fun _ hk => hk.2) (.int .i64 (Int.tmod (wrap64 ((rd x7_1 x9_1) + (rd t232 x9_1))) a0_0))) (fun _ hk => hk.1)⟩, ⟨by (with_reducible repeat (first | refine kN ?_ _ | refine kD ?_ | refine kA ?_ _)); refine blk_far ?_ (by have h_ := Kd.R_ne HO_7.out BK228.out (by decide); intro e_; exact h_ (by rw [e_]; rfl)) _; (with_reducible repeat (first | refine kN ?_ _ | refine kD ?_ | refine kA ?_ _)); exact BK228.out⟩, ⟨by repeat (first | (with_reducible first | exact HB.out | apply bA | apply bN | apply bD | refine bS ?_ GB15.out | refine bS ?_ GE228.out) | exact HB.out)⟩⟩
     ·rw [if_neg c13] at H
      exact absurd H (by simp)
    ·rw [if_neg c12] at H
     exact absurd H (by simp)
   ·rw [if_neg c11] at H
    have c11b0 : decide (x9_1 < (x7_1.length : Int)) = false := decide_eq_false c11
    clear c11
    replace H := Option.bind_eq_some_iff.mp H
    obtain ⟨t238, A200, H⟩ := H
    replace H : (some t238) = some r := H
    have A20 := Aside0.mk A200
    clear A200
    obtain rfl := Option.some.inj H
    obtain ⟨Ao21, co21, eo21⟩ := Kd.R_slice HO_7.out
    subst eo21
    have hcz22_0 : wr.cell? ⟨gb228, 0, none⟩ = some (.int .i64 a0_0) := (kC BK228.out 0).trans rfl
    have hcz22_1 : wr.cell? ⟨gb228, 1, none⟩ = some (.int .i64 a0_1) := (kC BK228.out 1).trans rfl
    have hcz22_2 : wr.cell? ⟨gb228, 2, none⟩ = some (.slice A0_2 l0_2.length c0_2) := (kC BK228.out 2).trans rfl
    have hfz22_0 := kF BK228.out 0
    have hfz22_1 := kF BK228.out 1
    have hfz22_2 := kF BK228.out 2
    go_wp2_with (first | ((with_reducible refine gate_callee (f := 44) rfl ?_); refine goesL_ (some 39) rfl rfl Try.func44 (by kernel_rfl) rfl #[.agg #[.int .i64 a0_0, .int .i64 a0_1, .slice A0_2 l0_2.length c0_2], .slice Ao21 x7_1.length co21] rfl (by (try simp only [List.map_toArray, List.map_cons, List.map_nil]); first | done | rfl | (simp only [List.length_drop, List.length_take]; rfl)) ?_; (with_reducible refine (codewrightref04_Value.calls k1 a0_0 a0_1 _ _ l0_2 _ _ x7_1 t238 _ ?side1 ?side2 ?side3 ?side4 A20.out).mono ?_); (case side1 => repeat (first | exact (Kd.C_below HR0_2.out HB.out) | (with_reducible refine Kd.C_alloc ?_ _) | (with_reducible refine Kd.C_drewN ?_ _) | (with_reducible refine Kd.C_drew ?_))); (case side2 => exact HC0_2.out); (case side3 => repeat (first | exact (Kd.R_reads' HO_7.out).2.2 | (with_reducible refine Kd.C_alloc ?_ _) | (with_reducible refine Kd.C_drewN ?_ _) | (with_reducible refine Kd.C_drew ?_))); (case side4 => exact (Kd.R_reads' HO_7.out).2.1); rintro e w23 ⟨rfl, hb⟩; refine ⟨_, rfl, ?_⟩; have n0_ := Aside0.mk (Kd.R_below (by (with_reducible repeat (first | apply Kd.R_alloc | apply Kd.R_drewN | apply Kd.R_drew)); exact HO_7.out) hb); have n1_ := Aside0.mk (Kd.R_below (by (with_reducible repeat (first | apply Kd.R_alloc | apply Kd.R_drewN | apply Kd.R_drew)); exact HO_8.out) hb); have n2_ := Aside0.mk (kB (g := gb228) (o := .cells #[.int .i64 a0_0, .int .i64 a0_1, .slice A0_2 l0_2.length c0_2] 24 (0, 0)) (by (with_reducible repeat (first | refine kN ?_ _ | refine kD ?_ | refine kA ?_ _)); exact BK228.out) hb); have n3_ := Aside0.mk (bP (by repeat (first | (with_reducible first | exact HB.out | apply bA | apply bN | apply bD | refine bS ?_ GE228.out) | exact HB.out)) hb); clear HO_7; clear HO_8; clear BK228; clear HB; have HO_7 := n0_; have HO_8 := n1_; have BK228 := n2_; have HB := n3_; clear n0_ n1_ n2_ n3_; (try clear hb); (try clear hb2); (try clear hk); (try clear hi)))
    go_ret
    exact ⟨by first | rfl | (simp [eN, eS] <;> rfl) | (simp [*, eN, eS] <;> rfl), by repeat (first | (with_reducible first | exact HB.out | apply bA | apply bN | apply bD | refine bS ?_ GE228.out) | exact HB.out)⟩
def codewrightref07_Divides.f (a0_0 : Int) (a0_1 : Int) (l0_2 : List Int) (a1 : Int) : Option (Bool) := if a1 ≥ 1 then (if a1 ≤ a0_1 then (if a1 = 0 then (none) else (some ((Int.tmod a0_1 a1) == 0))) else (some false)) else (some false)
set_option maxHeartbeats 8000000 in
set_option maxRecDepth 100000 in
theorem codewrightref07_Divides.calls (a0_0 : Int) (a0_1 : Int) (A0_2 : Option Addr) (c0_2 : Nat) (l0_2 : List Int) (a1 : Int) (r : Bool) (w : World) (hr0_2 : Kd.C (Kd.int .i64) w A0_2 l0_2.length l0_2) (hc0_2 : l0_2.length ≤ c0_2) (h : codewrightref07_Divides.f a0_0 a0_1 l0_2 a1 = some r) :
  Calls Try.prog 21 #[.agg #[.int .i64 a0_0, .int .i64 a0_1, .slice A0_2 l0_2.length c0_2], .int .i64 a1] w fun e w' => e = .returned (.bool r) ∧ Below w.heap.size w w' := by
 have hu24 := Try.underlying24
 have HR0_2 := Aside0.mk hr0_2
 have HC0_2 := Aside0.mk hc0_2
 clear hr0_2 hc0_2
 have HB := Aside0.mk (Below.refl w.heap.size w)
 have H : (if a1 ≥ 1 then (if a1 ≤ a0_1 then (if a1 = 0 then (none) else (some ((Int.tmod a0_1 a1) == 0))) else (some false)) else (some false)) = some r := h
 clear h
 by_cases c3 : a1 ≥ 1
 ·rw [if_pos c3] at H
  have c3b0 : decide (1 ≤ a1) = true := decide_eq_true c3
  clear c3
  by_cases c4 : a1 ≤ a0_1
  ·rw [if_pos c4] at H
   have c4b0 : decide (a1 ≤ a0_1) = true := decide_eq_true c4
   clear c4
   by_cases c5 : a1 = 0
   ·rw [if_pos c5] at H
    exact absurd H (by simp)
   ·rw [if_neg c5] at H
    have c5b0 : (a1 == 0) = false := beq_eq_false_iff_ne.mpr c5
    have c5b1 : (a1 != 0) = true := bne_iff_ne.mpr c5
    obtain rfl := Option.some.inj H
    go_enter Try.func21, Try.ntmps21
    go_wp2_with (first | ((with_reducible refine gate_dst (N := 2) rfl ?_); refine box_event ?hg (N := 2) ?hd (cs := #[.int .i64 a0_0, .int .i64 a0_1, .slice A0_2 l0_2.length c0_2]) (t := 24) ?hr ?_; (case hd => rfl); (case hg => rfl); (case hr => first | (go_simp; done) | (go_simp; rfl)); intro gb241 hg w6 hbox hb; have n0_ := Aside0.mk (bP (by repeat (first | (with_reducible first | exact HB.out | apply bA | apply bN | apply bD) | exact HB.out)) hb); have n1_ := Aside0.mk (hbox); have n2_ := Aside0.mk ((by rw [hg]; exact (bZ (by repeat (first | (with_reducible first | exact HB.out | apply bA | apply bN | apply bD) | exact HB.out))) : w.heap.size ≤ gb241)); have n3_ := Aside0.mk ((by rw [hg]; exact (bZ (by repeat (first | (with_reducible first | exact HB.out | apply bA | apply bN | apply bD) | exact HB.out))) : w.heap.size ≤ gb241)); clear HB; have HB := n0_; have BK241 := n1_; have GW241 := n2_; have GE241 := n3_; clear n0_ n1_ n2_ n3_; clear hb hbox hg; have hcz7_0 : w6.cell? ⟨gb241, 0, none⟩ = some (.int .i64 a0_0) := (kC BK241.out 0).trans rfl; have hcz7_1 : w6.cell? ⟨gb241, 1, none⟩ = some (.int .i64 a0_1) := (kC BK241.out 1).trans rfl; have hcz7_2 : w6.cell? ⟨gb241, 2, none⟩ = some (.slice A0_2 l0_2.length c0_2) := (kC BK241.out 2).trans rfl; have hfz7_0 := kF BK241.out 0; have hfz7_1 := kF BK241.out 1; have hfz7_2 := kF BK241.out 2))
    go_ret
    exact ⟨by first | rfl | (simp [eN, eS] <;> rfl) | (simp [*, eN, eS] <;> rfl), by repeat (first | (with_reducible first | exact HB.out | apply bA | apply bN | apply bD | refine bS ?_ GE241.out) | exact HB.out)⟩
  ·rw [if_neg c4] at H
   have c4b0 : decide (a1 ≤ a0_1) = false := decide_eq_false c4
   clear c4
   obtain rfl := Option.some.inj H
   go_enter Try.func21, Try.ntmps21
   go_wp2_with (first | ((with_reducible refine gate_dst (N := 2) rfl ?_); refine box_event ?hg (N := 2) ?hd (cs := #[.int .i64 a0_0, .int .i64 a0_1, .slice A0_2 l0_2.length c0_2]) (t := 24) ?hr ?_; (case hd => rfl); (case hg => rfl); (case hr => first | (go_simp; done) | (go_simp; rfl)); intro gb241 hg w8 hbox hb; have n0_ := Aside0.mk (bP (by repeat (first | (with_reducible first | exact HB.out | apply bA | apply bN | apply bD) | exact HB.out)) hb); have n1_ := Aside0.mk (hbox); have n2_ := Aside0.mk ((by rw [hg]; exact (bZ (by repeat (first | (with_reducible first | exact HB.out | apply bA | apply bN | apply bD) | exact HB.out))) : w.heap.size ≤ gb241)); have n3_ := Aside0.mk ((by rw [hg]; exact (bZ (by repeat (first | (with_reducible first | exact HB.out | apply bA | apply bN | apply bD) | exact HB.out))) : w.heap.size ≤ gb241)); clear HB; have HB := n0_; have BK241 := n1_; have GW241 := n2_; have GE241 := n3_; clear n0_ n1_ n2_ n3_; clear hb hbox hg; have hcz9_0 : w8.cell? ⟨gb241, 0, none⟩ = some (.int .i64 a0_0) := (kC BK241.out 0).trans rfl; have hcz9_1 : w8.cell? ⟨gb241, 1, none⟩ = some (.int .i64 a0_1) := (kC BK241.out 1).trans rfl; have hcz9_2 : w8.cell? ⟨gb241, 2, none⟩ = some (.slice A0_2 l0_2.length c0_2) := (kC BK241.out 2).trans rfl; have hfz9_0 := kF BK241.out 0; have hfz9_1 := kF BK241.out 1; have hfz9_2 := kF BK241.out 2))
   go_ret
   exact ⟨by first | rfl | (simp [eN, eS] <;> rfl) | (simp [*, eN, eS] <;> rfl), by repeat (first | (with_reducible first | exact HB.out | apply bA | apply bN | apply bD | refine bS ?_ GE241.out) | exact HB.out)⟩
 ·rw [if_neg c3] at H
  have c3b0 : decide (1 ≤ a1) = false := decide_eq_false c3
  clear c3
  obtain rfl := Option.some.inj H
  go_enter Try.func21, Try.ntmps21
  go_wp2_with (first | ((with_reducible refine gate_dst (N := 2) rfl ?_); refine box_event ?hg (N := 2) ?hd (cs := #[.int .i64 a0_0, .int .i64 a0_1, .slice A0_2 l0_2.length c0_2]) (t := 24) ?hr ?_; (case hd => rfl); (case hg => rfl); (case hr => first | (go_simp; done) | (go_simp; rfl)); intro gb241 hg w10 hbox hb; have n0_ := Aside0.mk (bP (by repeat (first | (with_reducible first | exact HB.out | apply bA | apply bN | apply bD) | exact HB.out)) hb); have n1_ := Aside0.mk (hbox); have n2_ := Aside0.mk ((by rw [hg]; exact (bZ (by repeat (first | (with_reducible first | exact HB.out | apply bA | apply bN | apply bD) | exact HB.out))) : w.heap.size ≤ gb241)); have n3_ := Aside0.mk ((by rw [hg]; exact (bZ (by repeat (first | (with_reducible first | exact HB.out | apply bA | apply bN | apply bD) | exact HB.out))) : w.heap.size ≤ gb241)); clear HB; have HB := n0_; have BK241 := n1_; have GW241 := n2_; have GE241 := n3_; clear n0_ n1_ n2_ n3_; clear hb hbox hg))
  go_ret
  exact ⟨by first | rfl | (simp [eN, eS] <;> rfl) | (simp [*, eN, eS] <;> rfl), by repeat (first | (with_reducible first | exact HB.out | apply bA | apply bN | apply bD | refine bS ?_ GE241.out) | exact HB.out)⟩
def codewrightref07_In.f (k : Nat) (a0_0 : Int) (a0_1 : Int) (l0_2 : List Int) (a1 : Int) (a2 : Int) : Option (Bool) := (codewrightref07_Frobenius.f k a0_0 a0_1 l0_2 a1 a2).bind fun t243 => ((codewrightref04_In.f k a0_0 a0_1 l0_2 a1).bind fun t244 => (some (t243 == t244)))
def codewrightref07_Subfield.l0 : Nat → Int → List Int → Int → Int → Int → List Int → Option (List Int)
 | 0, _, _, _, _, _, _ => none
 | k + 1, x1, x5, x6, x246000, x246001, x246002 => (codewrightref04_Order.f k x246000 x246001 x246002).bind fun t246 => (if x6 < t246 then ((codewrightref07_In.f k x246000 x246001 x246002 x6 x1).bind fun t247 => (if t247 = true then (if x5.length < 17592186044416 then (codewrightref07_Subfield.l0 k x1 (x5 ++ [x6]) (wrap64 (x6 + 1)) x246000 x246001 x246002) else (none)) else (codewrightref07_Subfield.l0 k x1 x5 (wrap64 (x6 + 1)) x246000 x246001 x246002))) else (some x5))
def codewrightref07_Subfield.f (k : Nat) (a0_0 : Int) (a0_1 : Int) (l0_2 : List Int) (a1 : Int) : Option (List Int) := codewrightref07_Subfield.l0 k a1 ([] : List Int) 0 a0_0 a0_1 l0_2
end
end Go.Proofs.Ytoambdpchjeklaa.P
end
