/- What dlogReaches_holds needs: texts Pa0, Pb0, Gs0, Gs1, GmL, GmA, Nl, Pa2, Pa3, Pa4, Pb2, GmOrder, put together. -/
import Derived.Test.YtbohbfggmnjpdaaKLR5
import Derived.Laws.StructEq
set_option linter.unusedVariables false
set_option linter.unusedSimpArgs false
-- Pa0
section
namespace Go.Proofs.Ytbohbfggmnjpdaa.P
noncomputable section
open Go.RowKit Go.Proofs.Ytbohbfggmnjpdaa.Hand Go.Proofs.YtbohbfggmnjpdaaW.PrintWords Go.Proofs.YtbohbfggmnjpdaaW.PrintLast Go.Proofs.YtbohbfggmnjpdaaW.PrintMore
set_option linter.unusedVariables false
set_option linter.unusedSimpArgs false
def errW : Option Int → Value
 | none => .nilIface
 | some c => .iface 0 (.int .i64 c)
theorem eN : errW none = .nilIface := rfl
theorem eS (c : Int) : errW (some c) = .iface 0 (.int .i64 c) := rfl
theorem info3 : (Try.prog.info? 3).map (fun i => (i.zero, i.size, i.bytes)) = some (some (.int .i64 0), 1, 8) := by kernel_rfl
end
end Go.Proofs.Ytbohbfggmnjpdaa.P
end
-- Pb0
section
namespace Go.Proofs.Ytbohbfggmnjpdaa.P
noncomputable section
open Go.RowKit Go.Proofs.Ytbohbfggmnjpdaa.Hand Go.Proofs.YtbohbfggmnjpdaaW.PrintWords Go.Proofs.YtbohbfggmnjpdaaW.PrintLast Go.Proofs.YtbohbfggmnjpdaaW.PrintMore
set_option linter.unusedVariables false
set_option linter.unusedSimpArgs false
theorem info4 : (Try.prog.info? 4).map (fun i => (i.zero, i.size, i.bytes)) = some (some (.bool false), 1, 1) := by kernel_rfl
theorem info87 : (Try.prog.info? 87).map (fun i => (i.zero, i.size, i.bytes)) = some (some (.agg #[(.int .i64 0), (.int .i64 0)]), 2, 16) := by kernel_rfl
structure S87 where
 f0 : Int
 f1 : Int
def z87 : S87 := ⟨(0 : Int), (0 : Int)⟩
def k87 : Kd S87 := Kd.iso (Kd.pair (Kd.int .i64) (Kd.int .i64)) (fun x : S87 => (x.f0, x.f1))
theorem k87_open {w : World} {x : S87} {cs : List Value} (h : k87.K w x cs) : cs = [.int .i64 x.f0, .int .i64 x.f1] := by
 obtain ⟨_, _, rfl, rfl, rfl⟩ := h
 exact rfl
theorem k87_mkM (w : World) (base : Nat) (ok : Nat → Prop) (x : S87)  : k87.M w base ok x [.int .i64 x.f0, .int .i64 x.f1] := ⟨[.int .i64 x.f0], [.int .i64 x.f1], rfl, rfl, rfl⟩
def rd_T87 (xs : List S87) (i : Int) : S87 := xs.getD i.toNat z87
theorem at_T87 {w : World} {A : Option Addr} {n : Nat} {xs : List S87} (h : Kd.C k87 w A n xs) (i : Int) (h0 : 0 ≤ i) (h1 : i < n) : ∃ ad , A = some ad ∧ w.cell? (ad.add (i.toNat * 2)) = some (.int .i64 (rd_T87 xs i).f0) ∧ w.cell? ⟨(ad.add (i.toNat * 2)).block, (ad.add (i.toNat * 2)).off + 1, none⟩ = some (.int .i64 (rd_T87 xs i).f1) := by
 obtain ⟨ad, c, e, _, hK, hc0⟩ := Kd.C_get h z87 i h0 h1
 have hc : ∀ j u, c[j]? = some u → w.cell? (ad.add (i.toNat * 2 + j)) = some u := hc0
 obtain rfl := k87_open hK
 exact ⟨ad, e, hc 0 _ rfl, by rw [← add_field _ _ 1 (by omega)]; exact hc 1 _ rfl⟩
end
end Go.Proofs.Ytbohbfggmnjpdaa.P
end
-- Gs0
section
namespace Go.Proofs.Ytbohbfggmnjpdaa.GS
noncomputable section
open Go.RowKit Go.Proofs.Ytbohbfggmnjpdaa.Hand Go.Proofs.YtbohbfggmnjpdaaW.PrintWords Go.Proofs.YtbohbfggmnjpdaaW.PrintLast Go.Proofs.YtbohbfggmnjpdaaW.PrintMore
set_option linter.unusedVariables false
set_option linter.unusedSimpArgs false
def errW : Option Int → Value
 | none => .nilIface
 | some c => .iface 0 (.int .i64 c)
theorem eN : errW none = .nilIface := rfl
theorem eS (c : Int) : errW (some c) = .iface 0 (.int .i64 c) := rfl
end
end Go.Proofs.Ytbohbfggmnjpdaa.GS
end
-- Gs1
section
namespace Go.Proofs.Ytbohbfggmnjpdaa.GS
noncomputable section
open Go.RowKit Go.Proofs.Ytbohbfggmnjpdaa.Hand Go.Proofs.YtbohbfggmnjpdaaW.PrintWords Go.Proofs.YtbohbfggmnjpdaaW.PrintLast Go.Proofs.YtbohbfggmnjpdaaW.PrintMore
set_option linter.unusedVariables false
set_option linter.unusedSimpArgs false
def IsS68 (w0 W : World) (g : Nat) (f0 : Int) (f1 : Int) (f2 : List Int) (f3 : Int) (f4 : List Int) (f5 : List Int) : Prop := ∃ A2 c2, ∃ A4 c4, ∃ A5 c5, W.heap[g]? = some (.cells #[.int .i64 f0, .int .i64 f1, .slice A2 f2.length c2, .int .i64 f3, .slice A4 f4.length c4, .slice A5 f5.length c5] 68 (0, 0)) ∧ True ∧ Kd.C (Kd.int .i64) w0 A2 f2.length f2 ∧ Kd.C (Kd.int .i64) w0 A4 f4.length f4 ∧ Kd.C (Kd.int .i64) w0 A5 f5.length f5
theorem IsS68.drewN {w0 W : World} {g : Nat} {f0 : Int} {f1 : Int} {f2 : List Int} {f3 : Int} {f4 : List Int} {f5 : List Int} (h : IsS68 w0 W g f0 f1 f2 f3 f4 f5) (m : Nat) : IsS68 w0 (W.drewN m) g f0 f1 f2 f3 f4 f5 := h
theorem cellS68_0 {W : World} {g : Nat} {A2 : Option Addr} {c2 : Nat} {A4 : Option Addr} {c4 : Nat} {A5 : Option Addr} {c5 : Nat} {f0 : Int} {f1 : Int} {f2 : List Int} {f3 : Int} {f4 : List Int} {f5 : List Int} (h : W.heap[g]? = some (.cells #[.int .i64 f0, .int .i64 f1, .slice A2 f2.length c2, .int .i64 f3, .slice A4 f4.length c4, .slice A5 f5.length c5] 68 (0, 0))) : W.cell? ⟨g, 0, none⟩ = some (.int .i64 f0) := (kC h 0).trans rfl
theorem cellS68_1 {W : World} {g : Nat} {A2 : Option Addr} {c2 : Nat} {A4 : Option Addr} {c4 : Nat} {A5 : Option Addr} {c5 : Nat} {f0 : Int} {f1 : Int} {f2 : List Int} {f3 : Int} {f4 : List Int} {f5 : List Int} (h : W.heap[g]? = some (.cells #[.int .i64 f0, .int .i64 f1, .slice A2 f2.length c2, .int .i64 f3, .slice A4 f4.length c4, .slice A5 f5.length c5] 68 (0, 0))) : W.cell? ⟨g, 1, none⟩ = some (.int .i64 f1) := (kC h 1).trans rfl
theorem cellS68_2 {W : World} {g : Nat} {A2 : Option Addr} {c2 : Nat} {A4 : Option Addr} {c4 : Nat} {A5 : Option Addr} {c5 : Nat} {f0 : Int} {f1 : Int} {f2 : List Int} {f3 : Int} {f4 : List Int} {f5 : List Int} (h : W.heap[g]? = some (.cells #[.int .i64 f0, .int .i64 f1, .slice A2 f2.length c2, .int .i64 f3, .slice A4 f4.length c4, .slice A5 f5.length c5] 68 (0, 0))) : W.cell? ⟨g, 2, none⟩ = some (.slice A2 f2.length c2) := (kC h 2).trans rfl
theorem cellS68_3 {W : World} {g : Nat} {A2 : Option Addr} {c2 : Nat} {A4 : Option Addr} {c4 : Nat} {A5 : Option Addr} {c5 : Nat} {f0 : Int} {f1 : Int} {f2 : List Int} {f3 : Int} {f4 : List Int} {f5 : List Int} (h : W.heap[g]? = some (.cells #[.int .i64 f0, .int .i64 f1, .slice A2 f2.length c2, .int .i64 f3, .slice A4 f4.length c4, .slice A5 f5.length c5] 68 (0, 0))) : W.cell? ⟨g, 3, none⟩ = some (.int .i64 f3) := (kC h 3).trans rfl
theorem cellS68_4 {W : World} {g : Nat} {A2 : Option Addr} {c2 : Nat} {A4 : Option Addr} {c4 : Nat} {A5 : Option Addr} {c5 : Nat} {f0 : Int} {f1 : Int} {f2 : List Int} {f3 : Int} {f4 : List Int} {f5 : List Int} (h : W.heap[g]? = some (.cells #[.int .i64 f0, .int .i64 f1, .slice A2 f2.length c2, .int .i64 f3, .slice A4 f4.length c4, .slice A5 f5.length c5] 68 (0, 0))) : W.cell? ⟨g, 4, none⟩ = some (.slice A4 f4.length c4) := (kC h 4).trans rfl
theorem cellS68_5 {W : World} {g : Nat} {A2 : Option Addr} {c2 : Nat} {A4 : Option Addr} {c4 : Nat} {A5 : Option Addr} {c5 : Nat} {f0 : Int} {f1 : Int} {f2 : List Int} {f3 : Int} {f4 : List Int} {f5 : List Int} (h : W.heap[g]? = some (.cells #[.int .i64 f0, .int .i64 f1, .slice A2 f2.length c2, .int .i64 f3, .slice A4 f4.length c4, .slice A5 f5.length c5] 68 (0, 0))) : W.cell? ⟨g, 5, none⟩ = some (.slice A5 f5.length c5) := (kC h 5).trans rfl
def field_GF_Is.f (s0_0 : Int) (s0_1 : Int) (s0_2 : List Int) (s0_3 : Int) (s0_4 : List Int) (s0_5 : List Int) (a1 : Int) : Option (Bool × Int × Int × Int) := if a1 ≥ 0 then (some (decide (a1 < s0_3), s0_0, s0_1, s0_3)) else (some (false, s0_0, s0_1, s0_3))
set_option maxHeartbeats 8000000 in
set_option maxRecDepth 100000 in
theorem field_GF_Is.calls (g : Nat) (s0_0 : Int) (s0_1 : Int) (s0_2 : List Int) (s0_3 : Int) (s0_4 : List Int) (s0_5 : List Int) (a1 : Int) (r1 : Bool) (r2 : Int) (r3 : Int) (r4 : Int) (w0 w : World) (hI : IsS68 w0 w g s0_0 s0_1 s0_2 s0_3 s0_4 s0_5) (hB : Below w0.heap.size w0 w) (h : field_GF_Is.f s0_0 s0_1 s0_2 s0_3 s0_4 s0_5 a1 = some (r1, r2, r3, r4)) :
  Calls Try.prog 40 #[.pointer (some ⟨g, 0, none⟩), .int .i64 a1] w fun e w' => e = .returned (.bool r1) ∧ IsS68 w0 w' g r2 r3 s0_2 r4 s0_4 s0_5 ∧ Below w0.heap.size w0 w' ∧ KeepBut w w' g none := by
 have HI0 := Q9a.mk hI
 have HK := Q9a.mk (KeepBut.refl w g none)
 have HL := Q9a.mk hB.size
 clear hI
 have HW0 := Q9a.mk hB.size
 have HB := Q9a.mk hB
 clear hB
 have H : (if a1 ≥ 0 then (some (decide (a1 < s0_3), s0_0, s0_1, s0_3)) else (some (false, s0_0, s0_1, s0_3))) = some (r1, r2, r3, r4) := h
 clear h
 by_cases c3 : a1 ≥ 0
 ·rw [if_pos c3] at H
  have c3b0 : decide (0 ≤ a1) = true := decide_eq_true c3
  clear c3
  simp only [Option.some.injEq, Prod.mk.injEq] at H
  obtain ⟨rfl, rfl, rfl, rfl⟩ := H
  obtain ⟨ASz4_2, cSz4_2, ASz4_4, cSz4_4, ASz4_5, cSz4_5, HGz4, hgz4, HSz4_2, HSz4_4, HSz4_5⟩ := HI0.out
  have hcz4_0 := cellS68_0 HGz4
  have hcz4_1 := cellS68_1 HGz4
  have hcz4_2 := cellS68_2 HGz4
  have hcz4_3 := cellS68_3 HGz4
  have hcz4_4 := cellS68_4 HGz4
  have hcz4_5 := cellS68_5 HGz4
  have hfz4_0 := kF HGz4 0
  have hfz4_1 := kF HGz4 1
  have hfz4_3 := kF HGz4 3
  clear HGz4 hgz4
  go_enter Try.func40, Try.ntmps40
  go_wp2
  go_ret
  exact ⟨by first | rfl | (simp [eN, eS] <;> rfl) | (simp [*, eN, eS] <;> rfl), by repeat (first | (with_reducible first | exact HI0.out | apply IsS68.alloc | apply IsS68.drewN | apply IsS68.drew | apply IsS68.set_0 | apply IsS68.set_1 | apply IsS68.set_3) | exact HI0.out), by repeat (first | (with_reducible first | exact HB.out | apply bA | apply bN | apply bD | refine bS ?_ (IsS68.ge HI0.out)) | exact HB.out), by repeat (first | (with_reducible first | exact HK.out | apply KeepBut.set_ | apply keep_drewN | apply keep_drew | apply keep_alloc) | exact HK.out)⟩
 ·rw [if_neg c3] at H
  have c3b0 : decide (0 ≤ a1) = false := decide_eq_false c3
  clear c3
  simp only [Option.some.injEq, Prod.mk.injEq] at H
  obtain ⟨rfl, rfl, rfl, rfl⟩ := H
  go_enter Try.func40, Try.ntmps40
  go_wp2
  go_ret
  exact ⟨by first | rfl | (simp [eN, eS] <;> rfl) | (simp [*, eN, eS] <;> rfl), by repeat (first | (with_reducible first | exact HI0.out | apply IsS68.alloc | apply IsS68.drewN | apply IsS68.drew | apply IsS68.set_0 | apply IsS68.set_1 | apply IsS68.set_3) | exact HI0.out), by repeat (first | (with_reducible first | exact HB.out | apply bA | apply bN | apply bD | refine bS ?_ (IsS68.ge HI0.out)) | exact HB.out), by repeat (first | (with_reducible first | exact HK.out | apply KeepBut.set_ | apply keep_drewN | apply keep_drew | apply keep_alloc) | exact HK.out)⟩
def field_GF_in.f (s0_0 : Int) (s0_1 : Int) (s0_2 : List Int) (s0_3 : Int) (s0_4 : List Int) (s0_5 : List Int) (a1 : Int) : Option (Int × Int × Int × Int) := (field_GF_Is.f s0_0 s0_1 s0_2 s0_3 s0_4 s0_5 a1).bind fun bt101 => (if bt101.1 = true then (some (a1, bt101.2.1, bt101.2.2.1, bt101.2.2.2)) else (some (0, bt101.2.1, bt101.2.2.1, bt101.2.2.2)))
set_option maxHeartbeats 8000000 in
set_option maxRecDepth 100000 in
theorem field_GF_in.calls (g : Nat) (s0_0 : Int) (s0_1 : Int) (s0_2 : List Int) (s0_3 : Int) (s0_4 : List Int) (s0_5 : List Int) (a1 : Int) (r1 : Int) (r2 : Int) (r3 : Int) (r4 : Int) (w0 w : World) (hI : IsS68 w0 w g s0_0 s0_1 s0_2 s0_3 s0_4 s0_5) (hB : Below w0.heap.size w0 w) (h : field_GF_in.f s0_0 s0_1 s0_2 s0_3 s0_4 s0_5 a1 = some (r1, r2, r3, r4)) :
  Calls Try.prog 44 #[.pointer (some ⟨g, 0, none⟩), .int .i64 a1] w fun e w' => e = .returned (.int .i64 r1) ∧ IsS68 w0 w' g r2 r3 s0_2 r4 s0_4 s0_5 ∧ Below w0.heap.size w0 w' ∧ KeepBut w w' g none := by
 have HI0 := Q9a.mk hI
 have HK := Q9a.mk (KeepBut.refl w g none)
 have HL := Q9a.mk hB.size
 clear hI
 have HW0 := Q9a.mk hB.size
 have HB := Q9a.mk hB
 clear hB
 have H : ((field_GF_Is.f s0_0 s0_1 s0_2 s0_3 s0_4 s0_5 a1).bind fun bt101 => (if bt101.1 = true then (some (a1, bt101.2.1, bt101.2.2.1, bt101.2.2.2)) else (some (0, bt101.2.1, bt101.2.2.1, bt101.2.2.2)))) = some (r1, r2, r3, r4) := h
 clear h
 replace H := Option.bind_eq_some_iff.mp H
 obtain ⟨⟨t101, t102, t103, t104⟩, A30, H⟩ := H
 replace H : (if t101 = true then (some (a1, t102, t103, t104)) else (some (0, t102, t103, t104))) = some (r1, r2, r3, r4) := H
 have A3 := Q9a.mk A30
 clear A30
 by_cases c4 : t101 = true
 ·subst c4
  have H1 : (some (a1, t102, t103, t104)) = some (r1, r2, r3, r4) := by rw [if_pos rfl] at H; exact H
  clear H
  have H := H1
  clear H1
  simp only [Option.some.injEq, Prod.mk.injEq] at H
  obtain ⟨rfl, rfl, rfl, rfl⟩ := H
  go_enter Try.func44, Try.ntmps44
  go_wp2_with (first | ((with_reducible refine gate_callee (f := 40) rfl ?_); refine goesL_ (some 7) rfl rfl Try.func40 (by kernel_rfl) rfl #[.pointer (some ⟨g, 0, none⟩), .int .i64 a1] rfl (by (try simp only [List.map_toArray, List.map_cons, List.map_nil]); first | done | rfl | (simp only [List.length_drop, List.length_take]; rfl)) ?_; (with_reducible refine (field_GF_Is.calls g s0_0 s0_1 s0_2 s0_3 s0_4 s0_5 a1 true t102 t103 t104 w0 _ ?side1 ?side2 A3.out).mono ?_); (case side1 => repeat (first | (with_reducible first | exact HI0.out | apply IsS68.alloc | apply IsS68.drewN | apply IsS68.drew | apply IsS68.set_0 | apply IsS68.set_1 | apply IsS68.set_3) | exact HI0.out)); (case side2 => repeat (first | (with_reducible first | exact HB.out | apply bA | apply bN | apply bD | refine bS ?_ (IsS68.ge HI0.out)) | exact HB.out)); rintro e w5 ⟨rfl, hi, hb, hk⟩; refine ⟨_, rfl, ?_⟩; have n0_ := Q9a.mk (KeepBut.trans (by repeat (first | (with_reducible first | exact HK.out | apply KeepBut.set_ | apply keep_drewN | apply keep_drew | apply keep_alloc) | exact HK.out)) hk (.inl rfl)); have n1_ := Q9a.mk (hb); have n2_ := Q9a.mk (hi); clear HK; clear HB; clear HI0; have HK := n0_; have HB := n1_; have HI0 := n2_; clear n0_ n1_ n2_; (try clear hb); (try clear hb2); (try clear hk); (try clear hi)))
  go_ret
  exact ⟨by first | rfl | (simp [eN, eS] <;> rfl) | (simp [*, eN, eS] <;> rfl), by repeat (first | (with_reducible first | exact HI0.out | apply IsS68.alloc | apply IsS68.drewN | apply IsS68.drew | apply IsS68.set_0 | apply IsS68.set_1 | apply IsS68.set_3) | exact HI0.out), by repeat (first | (with_reducible first | exact HB.out | apply bA | apply bN | apply bD | refine bS ?_ (IsS68.ge HI0.out)) | exact HB.out), by repeat (first | (with_reducible first | exact HK.out | apply KeepBut.set_ | apply keep_drewN | apply keep_drew | apply keep_alloc) | exact HK.out)⟩
 ·replace c4 := Bool.eq_false_iff.mpr c4
  subst c4
  have H1 : (some (0, t102, t103, t104)) = some (r1, r2, r3, r4) := by rw [if_neg (show ¬ (false = true) by decide)] at H; exact H
  clear H
  have H := H1
  clear H1
  simp only [Option.some.injEq, Prod.mk.injEq] at H
  obtain ⟨rfl, rfl, rfl, rfl⟩ := H
  go_enter Try.func44, Try.ntmps44
  go_wp2_with (first | ((with_reducible refine gate_callee (f := 40) rfl ?_); refine goesL_ (some 7) rfl rfl Try.func40 (by kernel_rfl) rfl #[.pointer (some ⟨g, 0, none⟩), .int .i64 a1] rfl (by (try simp only [List.map_toArray, List.map_cons, List.map_nil]); first | done | rfl | (simp only [List.length_drop, List.length_take]; rfl)) ?_; (with_reducible refine (field_GF_Is.calls g s0_0 s0_1 s0_2 s0_3 s0_4 s0_5 a1 false t102 t103 t104 w0 _ ?side1 ?side2 A3.out).mono ?_); (case side1 => repeat (first | (with_reducible first | exact HI0.out | apply IsS68.alloc | apply IsS68.drewN | apply IsS68.drew | apply IsS68.set_0 | apply IsS68.set_1 | apply IsS68.set_3) | exact HI0.out)); (case side2 => repeat (first | (with_reducible first | exact HB.out | apply bA | apply bN | apply bD | refine bS ?_ (IsS68.ge HI0.out)) | exact HB.out)); rintro e w6 ⟨rfl, hi, hb, hk⟩; refine ⟨_, rfl, ?_⟩; have n0_ := Q9a.mk (KeepBut.trans (by repeat (first | (with_reducible first | exact HK.out | apply KeepBut.set_ | apply keep_drewN | apply keep_drew | apply keep_alloc) | exact HK.out)) hk (.inl rfl)); have n1_ := Q9a.mk (hb); have n2_ := Q9a.mk (hi); clear HK; clear HB; clear HI0; have HK := n0_; have HB := n1_; have HI0 := n2_; clear n0_ n1_ n2_; (try clear hb); (try clear hb2); (try clear hk); (try clear hi)))
  go_ret
  exact ⟨by first | rfl | (simp [eN, eS] <;> rfl) | (simp [*, eN, eS] <;> rfl), by repeat (first | (with_reducible first | exact HI0.out | apply IsS68.alloc | apply IsS68.drewN | apply IsS68.drew | apply IsS68.set_0 | apply IsS68.set_1 | apply IsS68.set_3) | exact HI0.out), by repeat (first | (with_reducible first | exact HB.out | apply bA | apply bN | apply bD | refine bS ?_ (IsS68.ge HI0.out)) | exact HB.out), by repeat (first | (with_reducible first | exact HK.out | apply KeepBut.set_ | apply keep_drewN | apply keep_drew | apply keep_alloc) | exact HK.out)⟩
def field_GF_Order.f (s0_0 : Int) (s0_1 : Int) (s0_2 : List Int) (s0_3 : Int) (s0_4 : List Int) (s0_5 : List Int) : Option (Int × Int × Int × Int) := some (s0_3, s0_0, s0_1, s0_3)
set_option maxHeartbeats 8000000 in
set_option maxRecDepth 100000 in
theorem field_GF_Order.calls (g : Nat) (s0_0 : Int) (s0_1 : Int) (s0_2 : List Int) (s0_3 : Int) (s0_4 : List Int) (s0_5 : List Int) (r1 : Int) (r2 : Int) (r3 : Int) (r4 : Int) (w0 w : World) (hI : IsS68 w0 w g s0_0 s0_1 s0_2 s0_3 s0_4 s0_5) (hB : Below w0.heap.size w0 w) (h : field_GF_Order.f s0_0 s0_1 s0_2 s0_3 s0_4 s0_5 = some (r1, r2, r3, r4)) :
  Calls Try.prog 41 #[.pointer (some ⟨g, 0, none⟩)] w fun e w' => e = .returned (.int .i64 r1) ∧ IsS68 w0 w' g r2 r3 s0_2 r4 s0_4 s0_5 ∧ Below w0.heap.size w0 w' ∧ KeepBut w w' g none := by
 have HI0 := Q9a.mk hI
 have HK := Q9a.mk (KeepBut.refl w g none)
 have HL := Q9a.mk hB.size
 clear hI
 have HW0 := Q9a.mk hB.size
 have HB := Q9a.mk hB
 clear hB
 have H : (some (s0_3, s0_0, s0_1, s0_3)) = some (r1, r2, r3, r4) := h
 clear h
 simp only [Option.some.injEq, Prod.mk.injEq] at H
 obtain ⟨rfl, rfl, rfl, rfl⟩ := H
 obtain ⟨ASz2_2, cSz2_2, ASz2_4, cSz2_4, ASz2_5, cSz2_5, HGz2, hgz2, HSz2_2, HSz2_4, HSz2_5⟩ := HI0.out
 have hcz2_0 := cellS68_0 HGz2
 have hcz2_1 := cellS68_1 HGz2
 have hcz2_2 := cellS68_2 HGz2
 have hcz2_3 := cellS68_3 HGz2
 have hcz2_4 := cellS68_4 HGz2
 have hcz2_5 := cellS68_5 HGz2
 have hfz2_0 := kF HGz2 0
 have hfz2_1 := kF HGz2 1
 have hfz2_3 := kF HGz2 3
 clear HGz2 hgz2
 go_enter Try.func41, Try.ntmps41
 go_wp2
 go_ret
 exact ⟨by first | rfl | (simp [eN, eS] <;> rfl) | (simp [*, eN, eS] <;> rfl), by repeat (first | (with_reducible first | exact HI0.out | apply IsS68.alloc | apply IsS68.drewN | apply IsS68.drew | apply IsS68.set_0 | apply IsS68.set_1 | apply IsS68.set_3) | exact HI0.out), by repeat (first | (with_reducible first | exact HB.out | apply bA | apply bN | apply bD | refine bS ?_ (IsS68.ge HI0.out)) | exact HB.out), by repeat (first | (with_reducible first | exact HK.out | apply KeepBut.set_ | apply keep_drewN | apply keep_drew | apply keep_alloc) | exact HK.out)⟩
def field_GF_Mul.f (s0_0 : Int) (s0_1 : Int) (s0_2 : List Int) (s0_3 : Int) (s0_4 : List Int) (s0_5 : List Int) (a1 : Int) (a2 : Int) : Option (Int × Int × Int × Int) := (field_GF_in.f s0_0 s0_1 s0_2 s0_3 s0_4 s0_5 a1).bind fun bt113 => ((field_GF_in.f bt113.2.1 bt113.2.2.1 s0_2 bt113.2.2.2 s0_4 s0_5 a2).bind fun bt117 => (if bt113.1 = 0 then (some (0, bt117.2.1, bt117.2.2.1, bt117.2.2.2)) else (if bt117.1 = 0 then (some (0, bt117.2.1, bt117.2.2.1, bt117.2.2.2)) else (if 0 ≤ bt113.1 then (if bt113.1 < (s0_5.length : Int) then (if 0 ≤ bt117.1 then (if bt117.1 < (s0_5.length : Int) then (if (wrap64 (bt117.2.2.2 - 1)) = 0 then (none) else (if 0 ≤ (Int.tmod (wrap64 ((rd s0_5 bt113.1) + (rd s0_5 bt117.1))) (wrap64 (bt117.2.2.2 - 1))) then (if (Int.tmod (wrap64 ((rd s0_5 bt113.1) + (rd s0_5 bt117.1))) (wrap64 (bt117.2.2.2 - 1))) < (s0_4.length : Int) then (some (rd s0_4 (Int.tmod (wrap64 ((rd s0_5 bt113.1) + (rd s0_5 bt117.1))) (wrap64 (bt117.2.2.2 - 1))), bt117.2.1, bt117.2.2.1, bt117.2.2.2)) else (none)) else (none))) else (none)) else (none)) else (none)) else (none)))))
set_option maxHeartbeats 8000000 in
set_option maxRecDepth 100000 in
theorem field_GF_Mul.calls (g : Nat) (s0_0 : Int) (s0_1 : Int) (s0_2 : List Int) (s0_3 : Int) (s0_4 : List Int) (s0_5 : List Int) (a1 : Int) (a2 : Int) (r1 : Int) (r2 : Int) (r3 : Int) (r4 : Int) (w0 w : World) (hI : IsS68 w0 w g s0_0 s0_1 s0_2 s0_3 s0_4 s0_5) (hB : Below w0.heap.size w0 w) (h : field_GF_Mul.f s0_0 s0_1 s0_2 s0_3 s0_4 s0_5 a1 a2 = some (r1, r2, r3, r4)) :
  Calls Try.prog 48 #[.pointer (some ⟨g, 0, none⟩), .int .i64 a1, .int .i64 a2] w fun e w' => e = .returned (.int .i64 r1) ∧ IsS68 w0 w' g r2 r3 s0_2 r4 s0_4 s0_5 ∧ Below w0.heap.size w0 w' ∧ KeepBut w w' g none := by
 have HI0 := Q9a.mk hI
 have HK := Q9a.mk (KeepBut.refl w g none)
 have HL := Q9a.mk hB.size
 clear hI
 have HW0 := Q9a.mk hB.size
 have HB := Q9a.mk hB
 clear hB
 have H : ((field_GF_in.f s0_0 s0_1 s0_2 s0_3 s0_4 s0_5 a1).bind fun bt113 => ((field_GF_in.f bt113.2.1 bt113.2.2.1 s0_2 bt113.2.2.2 s0_4 s0_5 a2).bind fun bt117 => (if bt113.1 = 0 then (some (0, bt117.2.1, bt117.2.2.1, bt117.2.2.2)) else (if bt117.1 = 0 then (some (0, bt117.2.1, bt117.2.2.1, bt117.2.2.2)) else (if 0 ≤ bt113.1 then (if bt113.1 < (s0_5.length : Int) then (if 0 ≤ bt117.1 then (if bt117.1 < (s0_5.length : Int) then (if (wrap64 (bt117.2.2.2 - 1)) = 0 then (none) else (if 0 ≤ (Int.tmod (wrap64 ((rd s0_5 bt113.1) + (rd s0_5 bt117.1))) (wrap64 (bt117.2.2.2 - 1))) then (if (Int.tmod (wrap64 ((rd s0_5 bt113.1) + (rd s0_5 bt117.1))) (wrap64 (bt117.2.2.2 - 1))) < (s0_4.length : Int) then (some (rd s0_4 (Int.tmod (wrap64 ((rd s0_5 bt113.1) + (rd s0_5 bt117.1))) (wrap64 (bt117.2.2.2 - 1))), bt117.2.1, bt117.2.2.1, bt117.2.2.2)) else (none)) else (none))) else (none)) else (none)) else (none)) else (none)))))) = some (r1, r2, r3, r4) := h
 clear h
 replace H := Option.bind_eq_some_iff.mp H
 obtain ⟨⟨t113, t114, t115, t116⟩, A40, H⟩ := H
 replace H : ((field_GF_in.f t114 t115 s0_2 t116 s0_4 s0_5 a2).bind fun bt117 => (if t113 = 0 then (some (0, bt117.2.1, bt117.2.2.1, bt117.2.2.2)) else (if bt117.1 = 0 then (some (0, bt117.2.1, bt117.2.2.1, bt117.2.2.2)) else (if 0 ≤ t113 then (if t113 < (s0_5.length : Int) then (if 0 ≤ bt117.1 then (if bt117.1 < (s0_5.length : Int) then (if (wrap64 (bt117.2.2.2 - 1)) = 0 then (none) else (if 0 ≤ (Int.tmod (wrap64 ((rd s0_5 t113) + (rd s0_5 bt117.1))) (wrap64 (bt117.2.2.2 - 1))) then (if (Int.tmod (wrap64 ((rd s0_5 t113) + (rd s0_5 bt117.1))) (wrap64 (bt117.2.2.2 - 1))) < (s0_4.length : Int) then (some (rd s0_4 (Int.tmod (wrap64 ((rd s0_5 t113) + (rd s0_5 bt117.1))) (wrap64 (bt117.2.2.2 - 1))), bt117.2.1, bt117.2.2.1, bt117.2.2.2)) else (none)) else (none))) else (none)) else (none)) else (none)) else (none))))) = some (r1, r2, r3, r4) := H
 have A4 := Q9a.mk A40
 clear A40
 replace H := Option.bind_eq_some_iff.mp H
 obtain ⟨⟨t117, t118, t119, t120⟩, A50, H⟩ := H
 replace H : (if t113 = 0 then (some (0, t118, t119, t120)) else (if t117 = 0 then (some (0, t118, t119, t120)) else (if 0 ≤ t113 then (if t113 < (s0_5.length : Int) then (if 0 ≤ t117 then (if t117 < (s0_5.length : Int) then (if (wrap64 (t120 - 1)) = 0 then (none) else (if 0 ≤ (Int.tmod (wrap64 ((rd s0_5 t113) + (rd s0_5 t117))) (wrap64 (t120 - 1))) then (if (Int.tmod (wrap64 ((rd s0_5 t113) + (rd s0_5 t117))) (wrap64 (t120 - 1))) < (s0_4.length : Int) then (some (rd s0_4 (Int.tmod (wrap64 ((rd s0_5 t113) + (rd s0_5 t117))) (wrap64 (t120 - 1))), t118, t119, t120)) else (none)) else (none))) else (none)) else (none)) else (none)) else (none)))) = some (r1, r2, r3, r4) := H
 have A5 := Q9a.mk A50
 clear A50
 by_cases c6 : t113 = 0
 ·rw [if_pos c6] at H
  have c6b0 : (t113 == 0) = true := beq_iff_eq.mpr c6
  have c6b1 : (t113 != 0) = false := bne_eq_false_iff_eq.mpr c6
  clear c6
  simp only [Option.some.injEq, Prod.mk.injEq] at H
  obtain ⟨rfl, rfl, rfl, rfl⟩ := H
  go_enter Try.func48, Try.ntmps48
  go_wp2_with (first | (go_at_call 44; (with_reducible refine (field_GF_in.calls g s0_0 s0_1 s0_2 s0_3 s0_4 s0_5 a1 t113 t114 t115 t116 w0 _ ?side1 ?side2 A4.out).mono ?_); (case side1 => repeat (first | (with_reducible first | exact HI0.out | apply IsS68.alloc | apply IsS68.drewN | apply IsS68.drew | apply IsS68.set_0 | apply IsS68.set_1 | apply IsS68.set_3) | exact HI0.out)); (case side2 => repeat (first | (with_reducible first | exact HB.out | apply bA | apply bN | apply bD | refine bS ?_ (IsS68.ge HI0.out)) | exact HB.out)); rintro e w7 ⟨rfl, hi, hb, hk⟩; have n0_ := Q9a.mk (KeepBut.trans (by repeat (first | (with_reducible first | exact HK.out | apply KeepBut.set_ | apply keep_drewN | apply keep_drew | apply keep_alloc) | exact HK.out)) hk (.inl rfl)); have n1_ := Q9a.mk (hb); have n2_ := Q9a.mk (hi); clear HK; clear HB; clear HI0; have HK := n0_; have HB := n1_; have HI0 := n2_; clear n0_ n1_ n2_; (try clear hb); (try clear hb2); (try clear hk); (try clear hi)) | (go_at_call 44; (with_reducible refine (field_GF_in.calls g t114 t115 s0_2 t116 s0_4 s0_5 a2 t117 t118 t119 t120 w0 _ ?side1 ?side2 A5.out).mono ?_); (case side1 => repeat (first | (with_reducible first | exact HI0.out | apply IsS68.alloc | apply IsS68.drewN | apply IsS68.drew | apply IsS68.set_0 | apply IsS68.set_1 | apply IsS68.set_3) | exact HI0.out)); (case side2 => repeat (first | (with_reducible first | exact HB.out | apply bA | apply bN | apply bD | refine bS ?_ (IsS68.ge HI0.out)) | exact HB.out)); rintro e w8 ⟨rfl, hi, hb, hk⟩; have n0_ := Q9a.mk (KeepBut.trans (by repeat (first | (with_reducible first | exact HK.out | apply KeepBut.set_ | apply keep_drewN | apply keep_drew | apply keep_alloc) | exact HK.out)) hk (.inl rfl)); have n1_ := Q9a.mk (hb); have n2_ := Q9a.mk (hi); clear HK; clear HB; clear HI0; have HK := n0_; have HB := n1_; have HI0 := n2_; clear n0_ n1_ n2_; (try clear hb); (try clear hb2); (try clear hk); (try clear hi)))
  repeat (go_quiet (first | (go_at_call 44; (with_reducible refine (field_GF_in.calls g s0_0 s0_1 s0_2 s0_3 s0_4 s0_5 a1 t113 t114 t115 t116 w0 _ ?side1 ?side2 A4.out).mono ?_); (case side1 => repeat (first | (with_reducible first | exact HI0.out | apply IsS68.alloc | apply IsS68.drewN | apply IsS68.drew | apply IsS68.set_0 | apply IsS68.set_1 | apply IsS68.set_3) | exact HI0.out)); (case side2 => repeat (first | (with_reducible first | exact HB.out | apply bA | apply bN | apply bD | refine bS ?_ (IsS68.ge HI0.out)) | exact HB.out)); rintro e w7 ⟨rfl, hi, hb, hk⟩; have n0_ := Q9a.mk (KeepBut.trans (by repeat (first | (with_reducible first | exact HK.out | apply KeepBut.set_ | apply keep_drewN | apply keep_drew | apply keep_alloc) | exact HK.out)) hk (.inl rfl)); have n1_ := Q9a.mk (hb); have n2_ := Q9a.mk (hi); clear HK; clear HB; clear HI0; have HK := n0_; have HB := n1_; have HI0 := n2_; clear n0_ n1_ n2_; (try clear hb); (try clear hb2); (try clear hk); (try clear hi)) | (go_at_call 44; (with_reducible refine (field_GF_in.calls g t114 t115 s0_2 t116 s0_4 s0_5 a2 t117 t118 t119 t120 w0 _ ?side1 ?side2 A5.out).mono ?_); (case side1 => repeat (first | (with_reducible first | exact HI0.out | apply IsS68.alloc | apply IsS68.drewN | apply IsS68.drew | apply IsS68.set_0 | apply IsS68.set_1 | apply IsS68.set_3) | exact HI0.out)); (case side2 => repeat (first | (with_reducible first | exact HB.out | apply bA | apply bN | apply bD | refine bS ?_ (IsS68.ge HI0.out)) | exact HB.out)); rintro e w8 ⟨rfl, hi, hb, hk⟩; have n0_ := Q9a.mk (KeepBut.trans (by repeat (first | (with_reducible first | exact HK.out | apply KeepBut.set_ | apply keep_drewN | apply keep_drew | apply keep_alloc) | exact HK.out)) hk (.inl rfl)); have n1_ := Q9a.mk (hb); have n2_ := Q9a.mk (hi); clear HK; clear HB; clear HI0; have HK := n0_; have HB := n1_; have HI0 := n2_; clear n0_ n1_ n2_; (try clear hb); (try clear hb2); (try clear hk); (try clear hi))); try go_wp2_with (first | (go_at_call 44; (with_reducible refine (field_GF_in.calls g s0_0 s0_1 s0_2 s0_3 s0_4 s0_5 a1 t113 t114 t115 t116 w0 _ ?side1 ?side2 A4.out).mono ?_); (case side1 => repeat (first | (with_reducible first | exact HI0.out | apply IsS68.alloc | apply IsS68.drewN | apply IsS68.drew | apply IsS68.set_0 | apply IsS68.set_1 | apply IsS68.set_3) | exact HI0.out)); (case side2 => repeat (first | (with_reducible first | exact HB.out | apply bA | apply bN | apply bD | refine bS ?_ (IsS68.ge HI0.out)) | exact HB.out)); rintro e w7 ⟨rfl, hi, hb, hk⟩; have n0_ := Q9a.mk (KeepBut.trans (by repeat (first | (with_reducible first | exact HK.out | apply KeepBut.set_ | apply keep_drewN | apply keep_drew | apply keep_alloc) | exact HK.out)) hk (.inl rfl)); have n1_ := Q9a.mk (hb); have n2_ := Q9a.mk (hi); clear HK; clear HB; clear HI0; have HK := n0_; have HB := n1_; have HI0 := n2_; clear n0_ n1_ n2_; (try clear hb); (try clear hb2); (try clear hk); (try clear hi)) | (go_at_call 44; (with_reducible refine (field_GF_in.calls g t114 t115 s0_2 t116 s0_4 s0_5 a2 t117 t118 t119 t120 w0 _ ?side1 ?side2 A5.out).mono ?_); (case side1 => repeat (first | (with_reducible first | exact HI0.out | apply IsS68.alloc | apply IsS68.drewN | apply IsS68.drew | apply IsS68.set_0 | apply IsS68.set_1 | apply IsS68.set_3) | exact HI0.out)); (case side2 => repeat (first | (with_reducible first | exact HB.out | apply bA | apply bN | apply bD | refine bS ?_ (IsS68.ge HI0.out)) | exact HB.out)); rintro e w8 ⟨rfl, hi, hb, hk⟩; have n0_ := Q9a.mk (KeepBut.trans (by repeat (first | (with_reducible first | exact HK.out | apply KeepBut.set_ | apply keep_drewN | apply keep_drew | apply keep_alloc) | exact HK.out)) hk (.inl rfl)); have n1_ := Q9a.mk (hb); have n2_ := Q9a.mk (hi); clear HK; clear HB; clear HI0; have HK := n0_; have HB := n1_; have HI0 := n2_; clear n0_ n1_ n2_; (try clear hb); (try clear hb2); (try clear hk); (try clear hi))))
  go_ret
  exact ⟨by first | rfl | (simp [eN, eS] <;> rfl) | (simp [*, eN, eS] <;> rfl), by repeat (first | (with_reducible first | exact HI0.out | apply IsS68.alloc | apply IsS68.drewN | apply IsS68.drew | apply IsS68.set_0 | apply IsS68.set_1 | apply IsS68.set_3) | exact HI0.out), by repeat (first | (with_reducible first | exact HB.out | apply bA | apply bN | apply bD | refine bS ?_ (IsS68.ge HI0.out)) | exact HB.out), by repeat (first | (with_reducible first | exact HK.out | apply KeepBut.set_ | apply keep_drewN | apply keep_drew | apply keep_alloc) | exact HK.out)⟩
 ·rw [if_neg c6] at H
  have c6b0 : (t113 == 0) = false := beq_eq_false_iff_ne.mpr c6
  have c6b1 : (t113 != 0) = true := bne_iff_ne.mpr c6
  by_cases c9 : t117 = 0
  ·rw [if_pos c9] at H
   have c9b0 : (t117 == 0) = true := beq_iff_eq.mpr c9
   have c9b1 : (t117 != 0) = false := bne_eq_false_iff_eq.mpr c9
   clear c9
   simp only [Option.some.injEq, Prod.mk.injEq] at H
   obtain ⟨rfl, rfl, rfl, rfl⟩ := H
   go_enter Try.func48, Try.ntmps48
   go_wp2_with (first | (go_at_call 44; (with_reducible refine (field_GF_in.calls g s0_0 s0_1 s0_2 s0_3 s0_4 s0_5 a1 t113 t114 t115 t116 w0 _ ?side1 ?side2 A4.out).mono ?_); (case side1 => repeat (first | (with_reducible first | exact HI0.out | apply IsS68.alloc | apply IsS68.drewN | apply IsS68.drew | apply IsS68.set_0 | apply IsS68.set_1 | apply IsS68.set_3) | exact HI0.out)); (case side2 => repeat (first | (with_reducible first | exact HB.out | apply bA | apply bN | apply bD | refine bS ?_ (IsS68.ge HI0.out)) | exact HB.out)); rintro e w10 ⟨rfl, hi, hb, hk⟩; have n0_ := Q9a.mk (KeepBut.trans (by repeat (first | (with_reducible first | exact HK.out | apply KeepBut.set_ | apply keep_drewN | apply keep_drew | apply keep_alloc) | exact HK.out)) hk (.inl rfl)); have n1_ := Q9a.mk (hb); have n2_ := Q9a.mk (hi); clear HK; clear HB; clear HI0; have HK := n0_; have HB := n1_; have HI0 := n2_; clear n0_ n1_ n2_; (try clear hb); (try clear hb2); (try clear hk); (try clear hi)) | (go_at_call 44; (with_reducible refine (field_GF_in.calls g t114 t115 s0_2 t116 s0_4 s0_5 a2 t117 t118 t119 t120 w0 _ ?side1 ?side2 A5.out).mono ?_); (case side1 => repeat (first | (with_reducible first | exact HI0.out | apply IsS68.alloc | apply IsS68.drewN | apply IsS68.drew | apply IsS68.set_0 | apply IsS68.set_1 | apply IsS68.set_3) | exact HI0.out)); (case side2 => repeat (first | (with_reducible first | exact HB.out | apply bA | apply bN | apply bD | refine bS ?_ (IsS68.ge HI0.out)) | exact HB.out)); rintro e w11 ⟨rfl, hi, hb, hk⟩; have n0_ := Q9a.mk (KeepBut.trans (by repeat (first | (with_reducible first | exact HK.out | apply KeepBut.set_ | apply keep_drewN | apply keep_drew | apply keep_alloc) | exact HK.out)) hk (.inl rfl)); have n1_ := Q9a.mk (hb); have n2_ := Q9a.mk (hi); clear HK; clear HB; clear HI0; have HK := n0_; have HB := n1_; have HI0 := n2_; clear n0_ n1_ n2_; (try clear hb); (try clear hb2); (try clear hk); (try clear hi)))
   repeat (go_quiet (first | (go_at_call 44; (with_reducible refine (field_GF_in.calls g s0_0 s0_1 s0_2 s0_3 s0_4 s0_5 a1 t113 t114 t115 t116 w0 _ ?side1 ?side2 A4.out).mono ?_); (case side1 => repeat (first | (with_reducible first | exact HI0.out | apply IsS68.alloc | apply IsS68.drewN | apply IsS68.drew | apply IsS68.set_0 | apply IsS68.set_1 | apply IsS68.set_3) | exact HI0.out)); (case side2 => repeat (first | (with_reducible first | exact HB.out | apply bA | apply bN | apply bD | refine bS ?_ (IsS68.ge HI0.out)) | exact HB.out)); rintro e w10 ⟨rfl, hi, hb, hk⟩; have n0_ := Q9a.mk (KeepBut.trans (by repeat (first | (with_reducible first | exact HK.out | apply KeepBut.set_ | apply keep_drewN | apply keep_drew | apply keep_alloc) | exact HK.out)) hk (.inl rfl)); have n1_ := Q9a.mk (hb); have n2_ := Q9a.mk (hi); clear HK; clear HB; clear HI0; have HK := n0_; have HB := n1_; have HI0 := n2_; clear n0_ n1_ n2_; (try clear hb); (try clear hb2); (try clear hk); (try clear hi)) | (go_at_call 44; (with_reducible refine (field_GF_in.calls g t114 t115 s0_2 t116 s0_4 s0_5 a2 t117 t118 t119 t120 w0 _ ?side1 ?side2 A5.out).mono ?_); (case side1 => repeat (first | (with_reducible first | exact HI0.out | apply IsS68.alloc | apply IsS68.drewN | apply IsS68.drew | apply IsS68.set_0 | apply IsS68.set_1 | apply IsS68.set_3) | exact HI0.out)); (case side2 => repeat (first | (with_reducible first | exact HB.out | apply bA | apply bN | apply bD | refine bS ?_ (IsS68.ge HI0.out)) | exact HB.out)); rintro e w11 ⟨rfl, hi, hb, hk⟩; have n0_ := Q9a.mk (KeepBut.trans (by repeat (first | (with_reducible first | exact HK.out | apply KeepBut.set_ | apply keep_drewN | apply keep_drew | apply keep_alloc) | exact HK.out)) hk (.inl rfl)); have n1_ := Q9a.mk (hb); have n2_ := Q9a.mk (hi); clear HK; clear HB; clear HI0; have HK := n0_; have HB := n1_; have HI0 := n2_; clear n0_ n1_ n2_; (try clear hb); (try clear hb2); (try clear hk); (try clear hi))); try go_wp2_with (first | (go_at_call 44; (with_reducible refine (field_GF_in.calls g s0_0 s0_1 s0_2 s0_3 s0_4 s0_5 a1 t113 t114 t115 t116 w0 _ ?side1 ?side2 A4.out).mono ?_); (case side1 => repeat (first | (with_reducible first | exact HI0.out | apply IsS68.alloc | apply IsS68.drewN | apply IsS68.drew | apply IsS68.set_0 | apply IsS68.set_1 | apply IsS68.set_3) | exact HI0.out)); (case side2 => repeat (first | (with_reducible first | exact HB.out | apply bA | apply bN | apply bD | refine bS ?_ (IsS68.ge HI0.out)) | exact HB.out)); rintro e w10 ⟨rfl, hi, hb, hk⟩; have n0_ := Q9a.mk (KeepBut.trans (by repeat (first | (with_reducible first | exact HK.out | apply KeepBut.set_ | apply keep_drewN | apply keep_drew | apply keep_alloc) | exact HK.out)) hk (.inl rfl)); have n1_ := Q9a.mk (hb); have n2_ := Q9a.mk (hi); clear HK; clear HB; clear HI0; have HK := n0_; have HB := n1_; have HI0 := n2_; clear n0_ n1_ n2_; (try clear hb); (try clear hb2); (try clear hk); (try clear hi)) | (go_at_call 44; (with_reducible refine (field_GF_in.calls g t114 t115 s0_2 t116 s0_4 s0_5 a2 t117 t118 t119 t120 w0 _ ?side1 ?side2 A5.out).mono ?_); (case side1 => repeat (first | (with_reducible first | exact HI0.out | apply IsS68.alloc | apply IsS68.drewN | apply IsS68.drew | apply IsS68.set_0 | apply IsS68.set_1 | apply IsS68.set_3) | exact HI0.out)); (case side2 => repeat (first | (with_reducible first | exact HB.out | apply bA | apply bN | apply bD | refine bS ?_ (IsS68.ge HI0.out)) | exact HB.out)); rintro e w11 ⟨rfl, hi, hb, hk⟩; have n0_ := Q9a.mk (KeepBut.trans (by repeat (first | (with_reducible first | exact HK.out | apply KeepBut.set_ | apply keep_drewN | apply keep_drew | apply keep_alloc) | exact HK.out)) hk (.inl rfl)); have n1_ := Q9a.mk (hb); have n2_ := Q9a.mk (hi); clear HK; clear HB; clear HI0; have HK := n0_; have HB := n1_; have HI0 := n2_; clear n0_ n1_ n2_; (try clear hb); (try clear hb2); (try clear hk); (try clear hi))))
   go_ret
   exact ⟨by first | rfl | (simp [eN, eS] <;> rfl) | (simp [*, eN, eS] <;> rfl), by repeat (first | (with_reducible first | exact HI0.out | apply IsS68.alloc | apply IsS68.drewN | apply IsS68.drew | apply IsS68.set_0 | apply IsS68.set_1 | apply IsS68.set_3) | exact HI0.out), by repeat (first | (with_reducible first | exact HB.out | apply bA | apply bN | apply bD | refine bS ?_ (IsS68.ge HI0.out)) | exact HB.out), by repeat (first | (with_reducible first | exact HK.out | apply KeepBut.set_ | apply keep_drewN | apply keep_drew | apply keep_alloc) | exact HK.out)⟩
  ·rw [if_neg c9] at H
   have c9b0 : (t117 == 0) = false := beq_eq_false_iff_ne.mpr c9
   have c9b1 : (t117 != 0) = true := bne_iff_ne.mpr c9
   by_cases c12 : 0 ≤ t113
   ·rw [if_pos c12] at H
    have c12b0 : decide (0 ≤ t113) = true := decide_eq_true c12
    clear c12
    by_cases c13 : t113 < (s0_5.length : Int)
    ·rw [if_pos c13] at H
     have c13b0 : decide (t113 < (s0_5.length : Int)) = true := decide_eq_true c13
     clear c13
     by_cases c14 : 0 ≤ t117
     ·rw [if_pos c14] at H
      have c14b0 : decide (0 ≤ t117) = true := decide_eq_true c14
      clear c14
      by_cases c15 : t117 < (s0_5.length : Int)
      ·rw [if_pos c15] at H
       have c15b0 : decide (t117 < (s0_5.length : Int)) = true := decide_eq_true c15
       clear c15
       by_cases c16 : (wrap64 (t120 - 1)) = 0
       ·rw [if_pos c16] at H
        exact absurd H (by simp)
       ·rw [if_neg c16] at H
        have c16b0 : ((wrap64 (t120 - 1)) == 0) = false := beq_eq_false_iff_ne.mpr c16
        have c16b1 : ((wrap64 (t120 - 1)) != 0) = true := bne_iff_ne.mpr c16
        obtain ⟨ji17, hji17⟩ : ∃ j_ : Int, (Int.tmod (wrap64 ((rd s0_5 t113) + (rd s0_5 t117))) (wrap64 (t120 - 1))) = j_ := ⟨_, rfl⟩
        replace H : (if 0 ≤ (ji17) then (if (ji17) < (s0_4.length : Int) then (some (rd s0_4 (ji17), t118, t119, t120)) else (none)) else (none)) = some (r1, r2, r3, r4) := by first | (rw [hji17] at H; exact H) | (simp only [hji17] at H ⊢; exact H)
        (try rw [hji17] at A4)
        (try rw [hji17] at A5)
        by_cases c18 : 0 ≤ (ji17)
        ·rw [if_pos c18] at H
         have c18b0 : decide (0 ≤ (ji17)) = true := decide_eq_true c18
         clear c18
         by_cases c19 : (ji17) < (s0_4.length : Int)
         ·rw [if_pos c19] at H
          have c19b0 : decide ((ji17) < (s0_4.length : Int)) = true := decide_eq_true c19
          clear c19
          simp only [Option.some.injEq, Prod.mk.injEq] at H
          obtain ⟨rfl, rfl, rfl, rfl⟩ := H
          go_enter Try.func48, Try.ntmps48
          go_wp2_with (first | (go_at_call 44; (with_reducible refine (field_GF_in.calls g s0_0 s0_1 s0_2 s0_3 s0_4 s0_5 a1 t113 t114 t115 t116 w0 _ ?side1 ?side2 A4.out).mono ?_); (case side1 => repeat (first | (with_reducible first | exact HI0.out | apply IsS68.alloc | apply IsS68.drewN | apply IsS68.drew | apply IsS68.set_0 | apply IsS68.set_1 | apply IsS68.set_3) | exact HI0.out)); (case side2 => repeat (first | (with_reducible first | exact HB.out | apply bA | apply bN | apply bD | refine bS ?_ (IsS68.ge HI0.out)) | exact HB.out)); rintro e w20 ⟨rfl, hi, hb, hk⟩; have n0_ := Q9a.mk (KeepBut.trans (by repeat (first | (with_reducible first | exact HK.out | apply KeepBut.set_ | apply keep_drewN | apply keep_drew | apply keep_alloc) | exact HK.out)) hk (.inl rfl)); have n1_ := Q9a.mk (hb); have n2_ := Q9a.mk (hi); clear HK; clear HB; clear HI0; have HK := n0_; have HB := n1_; have HI0 := n2_; clear n0_ n1_ n2_; (try clear hb); (try clear hb2); (try clear hk); (try clear hi)) | (go_at_call 44; (with_reducible refine (field_GF_in.calls g t114 t115 s0_2 t116 s0_4 s0_5 a2 t117 t118 t119 t120 w0 _ ?side1 ?side2 A5.out).mono ?_); (case side1 => repeat (first | (with_reducible first | exact HI0.out | apply IsS68.alloc | apply IsS68.drewN | apply IsS68.drew | apply IsS68.set_0 | apply IsS68.set_1 | apply IsS68.set_3) | exact HI0.out)); (case side2 => repeat (first | (with_reducible first | exact HB.out | apply bA | apply bN | apply bD | refine bS ?_ (IsS68.ge HI0.out)) | exact HB.out)); rintro e w21 ⟨rfl, hi, hb, hk⟩; have n0_ := Q9a.mk (KeepBut.trans (by repeat (first | (with_reducible first | exact HK.out | apply KeepBut.set_ | apply keep_drewN | apply keep_drew | apply keep_alloc) | exact HK.out)) hk (.inl rfl)); have n1_ := Q9a.mk (hb); have n2_ := Q9a.mk (hi); clear HK; clear HB; clear HI0; have HK := n0_; have HB := n1_; have HI0 := n2_; clear n0_ n1_ n2_; (try clear hb); (try clear hb2); (try clear hk); (try clear hi); obtain ⟨ASz22_2, cSz22_2, ASz22_4, cSz22_4, ASz22_5, cSz22_5, HGz22, hgz22, HSz22_2, HSz22_4, HSz22_5⟩ := HI0.out; have hcz22_0 := cellS68_0 HGz22; have hcz22_1 := cellS68_1 HGz22; have hcz22_2 := cellS68_2 HGz22; have hcz22_3 := cellS68_3 HGz22; have hcz22_4 := cellS68_4 HGz22; have hcz22_5 := cellS68_5 HGz22; have hfz22_0 := kF HGz22 0; have hfz22_1 := kF HGz22 1; have hfz22_3 := kF HGz22 3; clear HGz22 hgz22; have p121 : 0 ≤ (t113 : Int) := of_decide_eq_true (by first | (with_reducible assumption) | assumption); have q121 : t113 < (s0_5.length : Int) := of_decide_eq_true (by first | (with_reducible assumption) | assumption); obtain ⟨ad121, e121, hx121_0⟩ := Kd.at_int HSz22_5 t113 p121 q121; cases e121; replace hx121_0 := pw_cell_below HB.out hx121_0; replace p121 := eq_true p121; replace q121 := eq_true q121; have p122 : 0 ≤ (t117 : Int) := of_decide_eq_true (by first | (with_reducible assumption) | assumption); have q122 : t117 < (s0_5.length : Int) := of_decide_eq_true (by first | (with_reducible assumption) | assumption); obtain ⟨ad122, e122, hx122_0⟩ := Kd.at_int HSz22_5 t117 p122 q122; obtain rfl : ad121 = ad122 := (by injection e122); replace hx122_0 := pw_cell_below HB.out hx122_0; replace p122 := eq_true p122; replace q122 := eq_true q122; have p123 : 0 ≤ ((ji17) : Int) := of_decide_eq_true (by first | (with_reducible assumption) | assumption); have q123 : (ji17) < (s0_4.length : Int) := of_decide_eq_true (by first | (with_reducible assumption) | assumption); obtain ⟨ad123, e123, hx123_0⟩ := Kd.at_int HSz22_4 (ji17) p123 q123; cases e123; replace hx123_0 := pw_cell_below HB.out hx123_0; replace p123 := eq_true p123; replace q123 := eq_true q123))
          repeat (go_quiet (first | (go_at_call 44; (with_reducible refine (field_GF_in.calls g s0_0 s0_1 s0_2 s0_3 s0_4 s0_5 a1 t113 t114 t115 t116 w0 _ ?side1 ?side2 A4.out).mono ?_); (case side1 => repeat (first | (with_reducible first | exact HI0.out | apply IsS68.alloc | apply IsS68.drewN | apply IsS68.drew | apply IsS68.set_0 | apply IsS68.set_1 | apply IsS68.set_3) | exact HI0.out)); (case side2 => repeat (first | (with_reducible first | exact HB.out | apply bA | apply bN | apply bD | refine bS ?_ (IsS68.ge HI0.out)) | exact HB.out)); rintro e w20 ⟨rfl, hi, hb, hk⟩; have n0_ := Q9a.mk (KeepBut.trans (by repeat (first | (with_reducible first | exact HK.out | apply KeepBut.set_ | apply keep_drewN | apply keep_drew | apply keep_alloc) | exact HK.out)) hk (.inl rfl)); have n1_ := Q9a.mk (hb); have n2_ := Q9a.mk (hi); clear HK; clear HB; clear HI0; have HK := n0_; have HB := n1_; have HI0 := n2_; clear n0_ n1_ n2_; (try clear hb); (try clear hb2); (try clear hk); (try clear hi)) | (go_at_call 44; (with_reducible refine (field_GF_in.calls g t114 t115 s0_2 t116 s0_4 s0_5 a2 t117 t118 t119 t120 w0 _ ?side1 ?side2 A5.out).mono ?_); (case side1 => repeat (first | (with_reducible first | exact HI0.out | apply IsS68.alloc | apply IsS68.drewN | apply IsS68.drew | apply IsS68.set_0 | apply IsS68.set_1 | apply IsS68.set_3) | exact HI0.out)); (case side2 => repeat (first | (with_reducible first | exact HB.out | apply bA | apply bN | apply bD | refine bS ?_ (IsS68.ge HI0.out)) | exact HB.out)); rintro e w21 ⟨rfl, hi, hb, hk⟩; have n0_ := Q9a.mk (KeepBut.trans (by repeat (first | (with_reducible first | exact HK.out | apply KeepBut.set_ | apply keep_drewN | apply keep_drew | apply keep_alloc) | exact HK.out)) hk (.inl rfl)); have n1_ := Q9a.mk (hb); have n2_ := Q9a.mk (hi); clear HK; clear HB; clear HI0; have HK := n0_; have HB := n1_; have HI0 := n2_; clear n0_ n1_ n2_; (try clear hb); (try clear hb2); (try clear hk); (try clear hi); obtain ⟨ASz22_2, cSz22_2, ASz22_4, cSz22_4, ASz22_5, cSz22_5, HGz22, hgz22, HSz22_2, HSz22_4, HSz22_5⟩ := HI0.out; have hcz22_0 := cellS68_0 HGz22; have hcz22_1 := cellS68_1 HGz22; have hcz22_2 := cellS68_2 HGz22; have hcz22_3 := cellS68_3 HGz22; have hcz22_4 := cellS68_4 HGz22; have hcz22_5 := cellS68_5 HGz22; have hfz22_0 := kF HGz22 0; have hfz22_1 := kF HGz22 1; have hfz22_3 := kF HGz22 3; clear HGz22 hgz22; have p121 : 0 ≤ (t113 : Int) := of_decide_eq_true (by first | (with_reducible assumption) | assumption); have q121 : t113 < (s0_5.length : Int) := of_decide_eq_true (by first | (with_reducible assumption) | assumption); obtain ⟨ad121, e121, hx121_0⟩ := Kd.at_int HSz22_5 t113 p121 q121; cases e121; replace hx121_0 := pw_cell_below HB.out hx121_0; replace p121 := eq_true p121; replace q121 := eq_true q121; have p122 : 0 ≤ (t117 : Int) := of_decide_eq_true (by first | (with_reducible assumption) | assumption); have q122 : t117 < (s0_5.length : Int) := of_decide_eq_true (by first | (with_reducible assumption) | assumption); obtain ⟨ad122, e122, hx122_0⟩ := Kd.at_int HSz22_5 t117 p122 q122; obtain rfl : ad121 = ad122 := (by injection e122); replace hx122_0 := pw_cell_below HB.out hx122_0; replace p122 := eq_true p122; replace q122 := eq_true q122; have p123 : 0 ≤ ((ji17) : Int) := of_decide_eq_true (by first | (with_reducible assumption) | assumption); have q123 : (ji17) < (s0_4.length : Int) := of_decide_eq_true (by first | (with_reducible assumption) | assumption); obtain ⟨ad123, e123, hx123_0⟩ := Kd.at_int HSz22_4 (ji17) p123 q123; cases e123; replace hx123_0 := pw_cell_below HB.out hx123_0; replace p123 := eq_true p123; replace q123 := eq_true q123)); try go_wp2_with (first | (go_at_call 44; (with_reducible refine (field_GF_in.calls g s0_0 s0_1 s0_2 s0_3 s0_4 s0_5 a1 t113 t114 t115 t116 w0 _ ?side1 ?side2 A4.out).mono ?_); (case side1 => repeat (first | (with_reducible first | exact HI0.out | apply IsS68.alloc | apply IsS68.drewN | apply IsS68.drew | apply IsS68.set_0 | apply IsS68.set_1 | apply IsS68.set_3) | exact HI0.out)); (case side2 => repeat (first | (with_reducible first | exact HB.out | apply bA | apply bN | apply bD | refine bS ?_ (IsS68.ge HI0.out)) | exact HB.out)); rintro e w20 ⟨rfl, hi, hb, hk⟩; have n0_ := Q9a.mk (KeepBut.trans (by repeat (first | (with_reducible first | exact HK.out | apply KeepBut.set_ | apply keep_drewN | apply keep_drew | apply keep_alloc) | exact HK.out)) hk (.inl rfl)); have n1_ := Q9a.mk (hb); have n2_ := Q9a.mk (hi); clear HK; clear HB; clear HI0; have HK := n0_; have HB := n1_; have HI0 := n2_; clear n0_ n1_ n2_; (try clear hb); (try clear hb2); (try clear hk); (try clear hi)) | (go_at_call 44; (with_reducible refine (field_GF_in.calls g t114 t115 s0_2 t116 s0_4 s0_5 a2 t117 t118 t119 t120 w0 _ ?side1 ?side2 A5.out).mono ?_); (case side1 => repeat (first | (with_reducible first | exact HI0.out | apply IsS68.alloc | apply IsS68.drewN | apply IsS68.drew | apply IsS68.set_0 | apply IsS68.set_1 | apply IsS68.set_3) | exact HI0.out)); (case side2 => repeat (first | (with_reducible first | exact HB.out | apply bA | apply bN | apply bD | refine bS ?_ (IsS68.ge HI0.out)) | exact HB.out)); rintro e w21 ⟨rfl, hi, hb, hk⟩; have n0_ := Q9a.mk (KeepBut.trans (by repeat (first | (with_reducible first | exact HK.out | apply KeepBut.set_ | apply keep_drewN | apply keep_drew | apply keep_alloc) | exact HK.out)) hk (.inl rfl)); have n1_ := Q9a.mk (hb); have n2_ := Q9a.mk (hi); clear HK; clear HB; clear HI0; have HK := n0_; have HB := n1_; have HI0 := n2_; clear n0_ n1_ n2_; (try clear hb); (try clear hb2); (try clear hk); (try clear hi); obtain ⟨ASz22_2, cSz22_2, ASz22_4, cSz22_4, ASz22_5, cSz22_5, HGz22, hgz22, HSz22_2, HSz22_4, HSz22_5⟩ := HI0.out; have hcz22_0 := cellS68_0 HGz22; have hcz22_1 := cellS68_1 HGz22; have hcz22_2 := cellS68_2 HGz22; have hcz22_3 := cellS68_3 HGz22; have hcz22_4 := cellS68_4 HGz22; have hcz22_5 := cellS68_5 HGz22; have hfz22_0 := kF HGz22 0; have hfz22_1 := kF HGz22 1; have hfz22_3 := kF HGz22 3; clear HGz22 hgz22; have p121 : 0 ≤ (t113 : Int) := of_decide_eq_true (by first | (with_reducible assumption) | assumption); have q121 : t113 < (s0_5.length : Int) := of_decide_eq_true (by first | (with_reducible assumption) | assumption); obtain ⟨ad121, e121, hx121_0⟩ := Kd.at_int HSz22_5 t113 p121 q121; cases e121; replace hx121_0 := pw_cell_below HB.out hx121_0; replace p121 := eq_true p121; replace q121 := eq_true q121; have p122 : 0 ≤ (t117 : Int) := of_decide_eq_true (by first | (with_reducible assumption) | assumption); have q122 : t117 < (s0_5.length : Int) := of_decide_eq_true (by first | (with_reducible assumption) | assumption); obtain ⟨ad122, e122, hx122_0⟩ := Kd.at_int HSz22_5 t117 p122 q122; obtain rfl : ad121 = ad122 := (by injection e122); replace hx122_0 := pw_cell_below HB.out hx122_0; replace p122 := eq_true p122; replace q122 := eq_true q122; have p123 : 0 ≤ ((ji17) : Int) := of_decide_eq_true (by first | (with_reducible assumption) | assumption); have q123 : (ji17) < (s0_4.length : Int) := of_decide_eq_true (by first | (with_reducible assumption) | assumption); obtain ⟨ad123, e123, hx123_0⟩ := Kd.at_int HSz22_4 (ji17) p123 q123; cases e123; replace hx123_0 := pw_cell_below HB.out hx123_0; replace p123 := eq_true p123; replace q123 := eq_true q123)))
          go_ret
          exact ⟨by first | rfl | (simp [eN, eS] <;> rfl) | (simp only [← hji17]; first | rfl | (simp [eN, eS] <;> rfl)) | (simp [*, eN, eS] <;> rfl), by repeat (first | (with_reducible first | exact HI0.out | apply IsS68.alloc | apply IsS68.drewN | apply IsS68.drew | apply IsS68.set_0 | apply IsS68.set_1 | apply IsS68.set_3) | exact HI0.out), by repeat (first | (with_reducible first | exact HB.out | apply bA | apply bN | apply bD | refine bS ?_ (IsS68.ge HI0.out)) | exact HB.out), by repeat (first | (with_reducible first | exact HK.out | apply KeepBut.set_ | apply keep_drewN | apply keep_drew | apply keep_alloc) | exact HK.out)⟩
         ·rw [if_neg c19] at H
          exact absurd H (by simp)
        ·rw [if_neg c18] at H
         exact absurd H (by simp)
      ·rw [if_neg c15] at H
       exact absurd H (by simp)
     ·rw [if_neg c14] at H
      exact absurd H (by simp)
    ·rw [if_neg c13] at H
     exact absurd H (by simp)
   ·rw [if_neg c12] at H
    exact absurd H (by simp)
def field_GF_Inv.f (s0_0 : Int) (s0_1 : Int) (s0_2 : List Int) (s0_3 : Int) (s0_4 : List Int) (s0_5 : List Int) (a1 : Int) : Option (Int × Int × Int × Int × Int) := (field_GF_in.f s0_0 s0_1 s0_2 s0_3 s0_4 s0_5 a1).bind fun bt124 => (if bt124.1 = 0 then (some (0, 7, bt124.2.1, bt124.2.2.1, bt124.2.2.2)) else (if 0 ≤ bt124.1 then (if bt124.1 < (s0_5.length : Int) then (if (wrap64 (bt124.2.2.2 - 1)) = 0 then (none) else (if 0 ≤ (Int.tmod (wrap64 ((wrap64 (bt124.2.2.2 - 1)) - (rd s0_5 bt124.1))) (wrap64 (bt124.2.2.2 - 1))) then (if (Int.tmod (wrap64 ((wrap64 (bt124.2.2.2 - 1)) - (rd s0_5 bt124.1))) (wrap64 (bt124.2.2.2 - 1))) < (s0_4.length : Int) then (some (rd s0_4 (Int.tmod (wrap64 ((wrap64 (bt124.2.2.2 - 1)) - (rd s0_5 bt124.1))) (wrap64 (bt124.2.2.2 - 1))), 0, bt124.2.1, bt124.2.2.1, bt124.2.2.2)) else (none)) else (none))) else (none)) else (none)))
set_option maxHeartbeats 8000000 in
set_option maxRecDepth 100000 in
theorem field_GF_Inv.calls (g : Nat) (s0_0 : Int) (s0_1 : Int) (s0_2 : List Int) (s0_3 : Int) (s0_4 : List Int) (s0_5 : List Int) (a1 : Int) (r1 : Int) (r2 : Int) (r3 : Int) (r4 : Int) (r5 : Int) (w0 w : World) (hI : IsS68 w0 w g s0_0 s0_1 s0_2 s0_3 s0_4 s0_5) (hB : Below w0.heap.size w0 w) (h : field_GF_Inv.f s0_0 s0_1 s0_2 s0_3 s0_4 s0_5 a1 = some (r1, r2, r3, r4, r5)) :
  Calls Try.prog 49 #[.pointer (some ⟨g, 0, none⟩), .int .i64 a1] w fun e w' => e = .returned (.tuple #[.int .i64 r1, .int .i64 r2]) ∧ IsS68 w0 w' g r3 r4 s0_2 r5 s0_4 s0_5 ∧ Below w0.heap.size w0 w' ∧ KeepBut w w' g none := by
 have HI0 := Q9a.mk hI
 have HK := Q9a.mk (KeepBut.refl w g none)
 have HL := Q9a.mk hB.size
 clear hI
 have HW0 := Q9a.mk hB.size
 have HB := Q9a.mk hB
 clear hB
 have H : ((field_GF_in.f s0_0 s0_1 s0_2 s0_3 s0_4 s0_5 a1).bind fun bt124 => (if bt124.1 = 0 then (some (0, 7, bt124.2.1, bt124.2.2.1, bt124.2.2.2)) else (if 0 ≤ bt124.1 then (if bt124.1 < (s0_5.length : Int) then (if (wrap64 (bt124.2.2.2 - 1)) = 0 then (none) else (if 0 ≤ (Int.tmod (wrap64 ((wrap64 (bt124.2.2.2 - 1)) - (rd s0_5 bt124.1))) (wrap64 (bt124.2.2.2 - 1))) then (if (Int.tmod (wrap64 ((wrap64 (bt124.2.2.2 - 1)) - (rd s0_5 bt124.1))) (wrap64 (bt124.2.2.2 - 1))) < (s0_4.length : Int) then (some (rd s0_4 (Int.tmod (wrap64 ((wrap64 (bt124.2.2.2 - 1)) - (rd s0_5 bt124.1))) (wrap64 (bt124.2.2.2 - 1))), 0, bt124.2.1, bt124.2.2.1, bt124.2.2.2)) else (none)) else (none))) else (none)) else (none)))) = some (r1, r2, r3, r4, r5) := h
 clear h
 replace H := Option.bind_eq_some_iff.mp H
 obtain ⟨⟨t124, t125, t126, t127⟩, A30, H⟩ := H
 replace H : (if t124 = 0 then (some (0, 7, t125, t126, t127)) else (if 0 ≤ t124 then (if t124 < (s0_5.length : Int) then (if (wrap64 (t127 - 1)) = 0 then (none) else (if 0 ≤ (Int.tmod (wrap64 ((wrap64 (t127 - 1)) - (rd s0_5 t124))) (wrap64 (t127 - 1))) then (if (Int.tmod (wrap64 ((wrap64 (t127 - 1)) - (rd s0_5 t124))) (wrap64 (t127 - 1))) < (s0_4.length : Int) then (some (rd s0_4 (Int.tmod (wrap64 ((wrap64 (t127 - 1)) - (rd s0_5 t124))) (wrap64 (t127 - 1))), 0, t125, t126, t127)) else (none)) else (none))) else (none)) else (none))) = some (r1, r2, r3, r4, r5) := H
 have A3 := Q9a.mk A30
 clear A30
 by_cases c4 : t124 = 0
 ·rw [if_pos c4] at H
  have c4b0 : (t124 == 0) = true := beq_iff_eq.mpr c4
  have c4b1 : (t124 != 0) = false := bne_eq_false_iff_eq.mpr c4
  clear c4
  simp only [Option.some.injEq, Prod.mk.injEq] at H
  obtain ⟨rfl, rfl, rfl, rfl, rfl⟩ := H
  go_enter Try.func49, Try.ntmps49
  go_wp2_with (first | (go_at_call 44; (with_reducible refine (field_GF_in.calls g s0_0 s0_1 s0_2 s0_3 s0_4 s0_5 a1 t124 t125 t126 t127 w0 _ ?side1 ?side2 A3.out).mono ?_); (case side1 => repeat (first | (with_reducible first | exact HI0.out | apply IsS68.alloc | apply IsS68.drewN | apply IsS68.drew | apply IsS68.set_0 | apply IsS68.set_1 | apply IsS68.set_3) | exact HI0.out)); (case side2 => repeat (first | (with_reducible first | exact HB.out | apply bA | apply bN | apply bD | refine bS ?_ (IsS68.ge HI0.out)) | exact HB.out)); rintro e w5 ⟨rfl, hi, hb, hk⟩; have n0_ := Q9a.mk (KeepBut.trans (by repeat (first | (with_reducible first | exact HK.out | apply KeepBut.set_ | apply keep_drewN | apply keep_drew | apply keep_alloc) | exact HK.out)) hk (.inl rfl)); have n1_ := Q9a.mk (hb); have n2_ := Q9a.mk (hi); clear HK; clear HB; clear HI0; have HK := n0_; have HB := n1_; have HI0 := n2_; clear n0_ n1_ n2_; (try clear hb); (try clear hb2); (try clear hk); (try clear hi)))
  repeat (go_quiet (first | (go_at_call 44; (with_reducible refine (field_GF_in.calls g s0_0 s0_1 s0_2 s0_3 s0_4 s0_5 a1 t124 t125 t126 t127 w0 _ ?side1 ?side2 A3.out).mono ?_); (case side1 => repeat (first | (with_reducible first | exact HI0.out | apply IsS68.alloc | apply IsS68.drewN | apply IsS68.drew | apply IsS68.set_0 | apply IsS68.set_1 | apply IsS68.set_3) | exact HI0.out)); (case side2 => repeat (first | (with_reducible first | exact HB.out | apply bA | apply bN | apply bD | refine bS ?_ (IsS68.ge HI0.out)) | exact HB.out)); rintro e w5 ⟨rfl, hi, hb, hk⟩; have n0_ := Q9a.mk (KeepBut.trans (by repeat (first | (with_reducible first | exact HK.out | apply KeepBut.set_ | apply keep_drewN | apply keep_drew | apply keep_alloc) | exact HK.out)) hk (.inl rfl)); have n1_ := Q9a.mk (hb); have n2_ := Q9a.mk (hi); clear HK; clear HB; clear HI0; have HK := n0_; have HB := n1_; have HI0 := n2_; clear n0_ n1_ n2_; (try clear hb); (try clear hb2); (try clear hk); (try clear hi))); try go_wp2_with (first | (go_at_call 44; (with_reducible refine (field_GF_in.calls g s0_0 s0_1 s0_2 s0_3 s0_4 s0_5 a1 t124 t125 t126 t127 w0 _ ?side1 ?side2 A3.out).mono ?_); (case side1 => repeat (first | (with_reducible first | exact HI0.out | apply IsS68.alloc | apply IsS68.drewN | apply IsS68.drew | apply IsS68.set_0 | apply IsS68.set_1 | apply IsS68.set_3) | exact HI0.out)); (case side2 => repeat (first | (with_reducible first | exact HB.out | apply bA | apply bN | apply bD | refine bS ?_ (IsS68.ge HI0.out)) | exact HB.out)); rintro e w5 ⟨rfl, hi, hb, hk⟩; have n0_ := Q9a.mk (KeepBut.trans (by repeat (first | (with_reducible first | exact HK.out | apply KeepBut.set_ | apply keep_drewN | apply keep_drew | apply keep_alloc) | exact HK.out)) hk (.inl rfl)); have n1_ := Q9a.mk (hb); have n2_ := Q9a.mk (hi); clear HK; clear HB; clear HI0; have HK := n0_; have HB := n1_; have HI0 := n2_; clear n0_ n1_ n2_; (try clear hb); (try clear hb2); (try clear hk); (try clear hi))))
  go_ret2
  exact ⟨by first | rfl | (simp [eN, eS] <;> rfl) | (simp [*, eN, eS] <;> rfl), by repeat (first | (with_reducible first | exact HI0.out | apply IsS68.alloc | apply IsS68.drewN | apply IsS68.drew | apply IsS68.set_0 | apply IsS68.set_1 | apply IsS68.set_3) | exact HI0.out), by repeat (first | (with_reducible first | exact HB.out | apply bA | apply bN | apply bD | refine bS ?_ (IsS68.ge HI0.out)) | exact HB.out), by repeat (first | (with_reducible first | exact HK.out | apply KeepBut.set_ | apply keep_drewN | apply keep_drew | apply keep_alloc) | exact HK.out)⟩
 ·rw [if_neg c4] at H
  have c4b0 : (t124 == 0) = false := beq_eq_false_iff_ne.mpr c4
  have c4b1 : (t124 != 0) = true := bne_iff_ne.mpr c4
  by_cases c6 : 0 ≤ t124
  ·rw [if_pos c6] at H
   have c6b0 : decide (0 ≤ t124) = true := decide_eq_true c6
   clear c6
   by_cases c7 : t124 < (s0_5.length : Int)
   ·rw [if_pos c7] at H
    have c7b0 : decide (t124 < (s0_5.length : Int)) = true := decide_eq_true c7
    clear c7
    by_cases c8 : (wrap64 (t127 - 1)) = 0
    ·rw [if_pos c8] at H
     exact absurd H (by simp)
    ·rw [if_neg c8] at H
     have c8b0 : ((wrap64 (t127 - 1)) == 0) = false := beq_eq_false_iff_ne.mpr c8
     have c8b1 : ((wrap64 (t127 - 1)) != 0) = true := bne_iff_ne.mpr c8
     obtain ⟨ji9, hji9⟩ : ∃ j_ : Int, (Int.tmod (wrap64 ((wrap64 (t127 - 1)) - (rd s0_5 t124))) (wrap64 (t127 - 1))) = j_ := ⟨_, rfl⟩
     replace H : (if 0 ≤ (ji9) then (if (ji9) < (s0_4.length : Int) then (some (rd s0_4 (ji9), 0, t125, t126, t127)) else (none)) else (none)) = some (r1, r2, r3, r4, r5) := by first | (rw [hji9] at H; exact H) | (simp only [hji9] at H ⊢; exact H)
     (try rw [hji9] at A3)
     by_cases c10 : 0 ≤ (ji9)
     ·rw [if_pos c10] at H
      have c10b0 : decide (0 ≤ (ji9)) = true := decide_eq_true c10
      clear c10
      by_cases c11 : (ji9) < (s0_4.length : Int)
      ·rw [if_pos c11] at H
       have c11b0 : decide ((ji9) < (s0_4.length : Int)) = true := decide_eq_true c11
       clear c11
       simp only [Option.some.injEq, Prod.mk.injEq] at H
       obtain ⟨rfl, rfl, rfl, rfl, rfl⟩ := H
       go_enter Try.func49, Try.ntmps49
       go_wp2_with (first | (go_at_call 44; (with_reducible refine (field_GF_in.calls g s0_0 s0_1 s0_2 s0_3 s0_4 s0_5 a1 t124 t125 t126 t127 w0 _ ?side1 ?side2 A3.out).mono ?_); (case side1 => repeat (first | (with_reducible first | exact HI0.out | apply IsS68.alloc | apply IsS68.drewN | apply IsS68.drew | apply IsS68.set_0 | apply IsS68.set_1 | apply IsS68.set_3) | exact HI0.out)); (case side2 => repeat (first | (with_reducible first | exact HB.out | apply bA | apply bN | apply bD | refine bS ?_ (IsS68.ge HI0.out)) | exact HB.out)); rintro e w12 ⟨rfl, hi, hb, hk⟩; have n0_ := Q9a.mk (KeepBut.trans (by repeat (first | (with_reducible first | exact HK.out | apply KeepBut.set_ | apply keep_drewN | apply keep_drew | apply keep_alloc) | exact HK.out)) hk (.inl rfl)); have n1_ := Q9a.mk (hb); have n2_ := Q9a.mk (hi); clear HK; clear HB; clear HI0; have HK := n0_; have HB := n1_; have HI0 := n2_; clear n0_ n1_ n2_; (try clear hb); (try clear hb2); (try clear hk); (try clear hi); obtain ⟨ASz13_2, cSz13_2, ASz13_4, cSz13_4, ASz13_5, cSz13_5, HGz13, hgz13, HSz13_2, HSz13_4, HSz13_5⟩ := HI0.out; have hcz13_0 := cellS68_0 HGz13; have hcz13_1 := cellS68_1 HGz13; have hcz13_2 := cellS68_2 HGz13; have hcz13_3 := cellS68_3 HGz13; have hcz13_4 := cellS68_4 HGz13; have hcz13_5 := cellS68_5 HGz13; have hfz13_0 := kF HGz13 0; have hfz13_1 := kF HGz13 1; have hfz13_3 := kF HGz13 3; clear HGz13 hgz13; have p128 : 0 ≤ (t124 : Int) := of_decide_eq_true (by first | (with_reducible assumption) | assumption); have q128 : t124 < (s0_5.length : Int) := of_decide_eq_true (by first | (with_reducible assumption) | assumption); obtain ⟨ad128, e128, hx128_0⟩ := Kd.at_int HSz13_5 t124 p128 q128; cases e128; replace hx128_0 := pw_cell_below HB.out hx128_0; replace p128 := eq_true p128; replace q128 := eq_true q128; have p129 : 0 ≤ ((ji9) : Int) := of_decide_eq_true (by first | (with_reducible assumption) | assumption); have q129 : (ji9) < (s0_4.length : Int) := of_decide_eq_true (by first | (with_reducible assumption) | assumption); obtain ⟨ad129, e129, hx129_0⟩ := Kd.at_int HSz13_4 (ji9) p129 q129; cases e129; replace hx129_0 := pw_cell_below HB.out hx129_0; replace p129 := eq_true p129; replace q129 := eq_true q129))
       repeat (go_quiet (first | (go_at_call 44; (with_reducible refine (field_GF_in.calls g s0_0 s0_1 s0_2 s0_3 s0_4 s0_5 a1 t124 t125 t126 t127 w0 _ ?side1 ?side2 A3.out).mono ?_); (case side1 => repeat (first | (with_reducible first | exact HI0.out | apply IsS68.alloc | apply IsS68.drewN | apply IsS68.drew | apply IsS68.set_0 | apply IsS68.set_1 | apply IsS68.set_3) | exact HI0.out)); (case side2 => repeat (first | (with_reducible first | exact HB.out | apply bA | apply bN | apply bD | refine bS ?_ (IsS68.ge HI0.out)) | exact HB.out)); rintro e w12 ⟨rfl, hi, hb, hk⟩; have n0_ := Q9a.mk (KeepBut.trans (by repeat (first | (with_reducible first | exact HK.out | apply KeepBut.set_ | apply keep_drewN | apply keep_drew | apply keep_alloc) | exact HK.out)) hk (.inl rfl)); have n1_ := Q9a.mk (hb); have n2_ := Q9a.mk (hi); clear HK; clear HB; clear HI0; have HK := n0_; have HB := n1_; have HI0 := n2_; clear n0_ n1_ n2_; (try clear hb); (try clear hb2); (try clear hk); (try clear hi); obtain ⟨ASz13_2, cSz13_2, ASz13_4, cSz13_4, ASz13_5, cSz13_5, HGz13, hgz13, HSz13_2, HSz13_4, HSz13_5⟩ := HI0.out; have hcz13_0 := cellS68_0 HGz13; have hcz13_1 := cellS68_1 HGz13; have hcz13_2 := cellS68_2 HGz13; have hcz13_3 := cellS68_3 HGz13; have hcz13_4 := cellS68_4 HGz13; have hcz13_5 := cellS68_5 HGz13; have hfz13_0 := kF HGz13 0; have hfz13_1 := kF HGz13 1; have hfz13_3 := kF HGz13 3; clear HGz13 hgz13; have p128 : 0 ≤ (t124 : Int) := of_decide_eq_true (by first | (with_reducible assumption) | assumption); have q128 : t124 < (s0_5.length : Int) := of_decide_eq_true (by first | (with_reducible assumption) | assumption); obtain ⟨ad128, e128, hx128_0⟩ := Kd.at_int HSz13_5 t124 p128 q128; cases e128; replace hx128_0 := pw_cell_below HB.out hx128_0; replace p128 := eq_true p128; replace q128 := eq_true q128; have p129 : 0 ≤ ((ji9) : Int) := of_decide_eq_true (by first | (with_reducible assumption) | assumption); have q129 : (ji9) < (s0_4.length : Int) := of_decide_eq_true (by first | (with_reducible assumption) | assumption); obtain ⟨ad129, e129, hx129_0⟩ := Kd.at_int HSz13_4 (ji9) p129 q129; cases e129; replace hx129_0 := pw_cell_below HB.out hx129_0; replace p129 := eq_true p129; replace q129 := eq_true q129)); try go_wp2_with (first | (go_at_call 44; (with_reducible refine (field_GF_in.calls g s0_0 s0_1 s0_2 s0_3 s0_4 s0_5 a1 t124 t125 t126 t127 w0 _ ?side1 ?side2 A3.out).mono ?_); (case side1 => repeat (first | (with_reducible first | exact HI0.out | apply IsS68.alloc | apply IsS68.drewN | apply IsS68.drew | apply IsS68.set_0 | apply IsS68.set_1 | apply IsS68.set_3) | exact HI0.out)); (case side2 => repeat (first | (with_reducible first | exact HB.out | apply bA | apply bN | apply bD | refine bS ?_ (IsS68.ge HI0.out)) | exact HB.out)); rintro e w12 ⟨rfl, hi, hb, hk⟩; have n0_ := Q9a.mk (KeepBut.trans (by repeat (first | (with_reducible first | exact HK.out | apply KeepBut.set_ | apply keep_drewN | apply keep_drew | apply keep_alloc) | exact HK.out)) hk (.inl rfl)); have n1_ := Q9a.mk (hb); have n2_ := Q9a.mk (hi); clear HK; clear HB; clear HI0; have HK := n0_; have HB := n1_; have HI0 := n2_; clear n0_ n1_ n2_; (try clear hb); (try clear hb2); (try clear hk); (try clear hi); obtain ⟨ASz13_2, cSz13_2, ASz13_4, cSz13_4, ASz13_5, cSz13_5, HGz13, hgz13, HSz13_2, HSz13_4, HSz13_5⟩ := HI0.out; have hcz13_0 := cellS68_0 HGz13; have hcz13_1 := cellS68_1 HGz13; have hcz13_2 := cellS68_2 HGz13; have hcz13_3 := cellS68_3 HGz13; have hcz13_4 := cellS68_4 HGz13; have hcz13_5 := cellS68_5 HGz13; have hfz13_0 := kF HGz13 0; have hfz13_1 := kF HGz13 1; have hfz13_3 := kF HGz13 3; clear HGz13 hgz13; have p128 : 0 ≤ (t124 : Int) := of_decide_eq_true (by first | (with_reducible assumption) | assumption); have q128 : t124 < (s0_5.length : Int) := of_decide_eq_true (by first | (with_reducible assumption) | assumption); obtain ⟨ad128, e128, hx128_0⟩ := Kd.at_int HSz13_5 t124 p128 q128; cases e128; replace hx128_0 := pw_cell_below HB.out hx128_0; replace p128 := eq_true p128; replace q128 := eq_true q128; have p129 : 0 ≤ ((ji9) : Int) := of_decide_eq_true (by first | (with_reducible assumption) | assumption); have q129 : (ji9) < (s0_4.length : Int) := of_decide_eq_true (by first | (with_reducible assumption) | assumption); obtain ⟨ad129, e129, hx129_0⟩ := Kd.at_int HSz13_4 (ji9) p129 q129; cases e129; replace hx129_0 := pw_cell_below HB.out hx129_0; replace p129 := eq_true p129; replace q129 := eq_true q129)))
       go_ret2
       exact ⟨by first | rfl | (simp [eN, eS] <;> rfl) | (simp only [← hji9]; first | rfl | (simp [eN, eS] <;> rfl)) | (simp [*, eN, eS] <;> rfl), by repeat (first | (with_reducible first | exact HI0.out | apply IsS68.alloc | apply IsS68.drewN | apply IsS68.drew | apply IsS68.set_0 | apply IsS68.set_1 | apply IsS68.set_3) | exact HI0.out), by repeat (first | (with_reducible first | exact HB.out | apply bA | apply bN | apply bD | refine bS ?_ (IsS68.ge HI0.out)) | exact HB.out), by repeat (first | (with_reducible first | exact HK.out | apply KeepBut.set_ | apply keep_drewN | apply keep_drew | apply keep_alloc) | exact HK.out)⟩
      ·rw [if_neg c11] at H
       exact absurd H (by simp)
     ·rw [if_neg c10] at H
      exact absurd H (by simp)
   ·rw [if_neg c7] at H
    exact absurd H (by simp)
  ·rw [if_neg c6] at H
   exact absurd H (by simp)
def field_GF_Pow.j0 : Nat → Int → Int → Bool → Int → Int → List Int → Int → List Int → List Int → Option (Int × Int × Int × Int × Int)
 | 0, _, _, _, _, _, _, _, _, _ => none
 | k + 1, x1, x2, x15, x1000, x1001, x1002, x1003, x1004, x1005 => if x15 = true then (some (0, 7, x1000, x1001, x1003)) else (if x1 = 0 then (some (0, 0, x1000, x1001, x1003)) else (if (wrap64 (x1003 - 1)) = 0 then (none) else (if 0 ≤ x1 then (if x1 < (x1005.length : Int) then (if 0 ≤ (Int.tmod (wrap64 ((rd x1005 x1) * (Int.tmod (wrap64 ((Int.tmod x2 (wrap64 (x1003 - 1))) + (wrap64 (x1003 - 1)))) (wrap64 (x1003 - 1))))) (wrap64 (x1003 - 1))) then (if (Int.tmod (wrap64 ((rd x1005 x1) * (Int.tmod (wrap64 ((Int.tmod x2 (wrap64 (x1003 - 1))) + (wrap64 (x1003 - 1)))) (wrap64 (x1003 - 1))))) (wrap64 (x1003 - 1))) < (x1004.length : Int) then (some (rd x1004 (Int.tmod (wrap64 ((rd x1005 x1) * (Int.tmod (wrap64 ((Int.tmod x2 (wrap64 (x1003 - 1))) + (wrap64 (x1003 - 1)))) (wrap64 (x1003 - 1))))) (wrap64 (x1003 - 1))), 0, x1000, x1001, x1003)) else (none)) else (none)) else (none)) else (none))))
def field_GF_Pow.f (k : Nat) (s0_0 : Int) (s0_1 : Int) (s0_2 : List Int) (s0_3 : Int) (s0_4 : List Int) (s0_5 : List Int) (a1 : Int) (a2 : Int) : Option (Int × Int × Int × Int × Int) := (field_GF_in.f s0_0 s0_1 s0_2 s0_3 s0_4 s0_5 a1).bind fun bt130 => (if a2 = 0 then (some (1, 0, bt130.2.1, bt130.2.2.1, bt130.2.2.2)) else (if bt130.1 = 0 then (field_GF_Pow.j0 k bt130.1 a2 (decide (a2 < 0)) bt130.2.1 bt130.2.2.1 s0_2 bt130.2.2.2 s0_4 s0_5) else (field_GF_Pow.j0 k bt130.1 a2 false bt130.2.1 bt130.2.2.1 s0_2 bt130.2.2.2 s0_4 s0_5)))
set_option maxHeartbeats 8000000 in
set_option maxRecDepth 100000 in
theorem field_GF_Pow.calls (k : Nat) (g : Nat) (s0_0 : Int) (s0_1 : Int) (s0_2 : List Int) (s0_3 : Int) (s0_4 : List Int) (s0_5 : List Int) (a1 : Int) (a2 : Int) (r1 : Int) (r2 : Int) (r3 : Int) (r4 : Int) (r5 : Int) (w0 w : World) (hI : IsS68 w0 w g s0_0 s0_1 s0_2 s0_3 s0_4 s0_5) (hB : Below w0.heap.size w0 w) (h : field_GF_Pow.f k s0_0 s0_1 s0_2 s0_3 s0_4 s0_5 a1 a2 = some (r1, r2, r3, r4, r5)) :
  Calls Try.prog 16 #[.pointer (some ⟨g, 0, none⟩), .int .i64 a1, .int .i64 a2] w fun e w' => e = .returned (.tuple #[.int .i64 r1, .int .i64 r2]) ∧ IsS68 w0 w' g r3 r4 s0_2 r5 s0_4 s0_5 ∧ Below w0.heap.size w0 w' ∧ KeepBut w w' g none := by
 have HI0 := Q9a.mk hI
 have HK := Q9a.mk (KeepBut.refl w g none)
 have HL := Q9a.mk hB.size
 clear hI
 have HW0 := Q9a.mk hB.size
 have HB := Q9a.mk hB
 clear hB
 have H : ((field_GF_in.f s0_0 s0_1 s0_2 s0_3 s0_4 s0_5 a1).bind fun bt130 => (if a2 = 0 then (some (1, 0, bt130.2.1, bt130.2.2.1, bt130.2.2.2)) else (if bt130.1 = 0 then (field_GF_Pow.j0 k bt130.1 a2 (decide (a2 < 0)) bt130.2.1 bt130.2.2.1 s0_2 bt130.2.2.2 s0_4 s0_5) else (field_GF_Pow.j0 k bt130.1 a2 false bt130.2.1 bt130.2.2.1 s0_2 bt130.2.2.2 s0_4 s0_5)))) = some (r1, r2, r3, r4, r5) := h
 clear h
 replace H := Option.bind_eq_some_iff.mp H
 obtain ⟨⟨t130, t131, t132, t133⟩, A40, H⟩ := H
 replace H : (if a2 = 0 then (some (1, 0, t131, t132, t133)) else (if t130 = 0 then (field_GF_Pow.j0 k t130 a2 (decide (a2 < 0)) t131 t132 s0_2 t133 s0_4 s0_5) else (field_GF_Pow.j0 k t130 a2 false t131 t132 s0_2 t133 s0_4 s0_5))) = some (r1, r2, r3, r4, r5) := H
 have A4 := Q9a.mk A40
 clear A40
 by_cases c5 : a2 = 0
 ·rw [if_pos c5] at H
  have c5b0 : (a2 == 0) = true := beq_iff_eq.mpr c5
  have c5b1 : (a2 != 0) = false := bne_eq_false_iff_eq.mpr c5
  clear c5
  simp only [Option.some.injEq, Prod.mk.injEq] at H
  obtain ⟨rfl, rfl, rfl, rfl, rfl⟩ := H
  go_enter Try.func16, Try.ntmps16
  go_wp2_with (first | (go_at_call 44; (with_reducible refine (field_GF_in.calls g s0_0 s0_1 s0_2 s0_3 s0_4 s0_5 a1 t130 t131 t132 t133 w0 _ ?side1 ?side2 A4.out).mono ?_); (case side1 => repeat (first | (with_reducible first | exact HI0.out | apply IsS68.alloc | apply IsS68.drewN | apply IsS68.drew | apply IsS68.set_0 | apply IsS68.set_1 | apply IsS68.set_3) | exact HI0.out)); (case side2 => repeat (first | (with_reducible first | exact HB.out | apply bA | apply bN | apply bD | refine bS ?_ (IsS68.ge HI0.out)) | exact HB.out)); rintro e w6 ⟨rfl, hi, hb, hk⟩; have n0_ := Q9a.mk (KeepBut.trans (by repeat (first | (with_reducible first | exact HK.out | apply KeepBut.set_ | apply keep_drewN | apply keep_drew | apply keep_alloc) | exact HK.out)) hk (.inl rfl)); have n1_ := Q9a.mk (hb); have n2_ := Q9a.mk (hi); clear HK; clear HB; clear HI0; have HK := n0_; have HB := n1_; have HI0 := n2_; clear n0_ n1_ n2_; (try clear hb); (try clear hb2); (try clear hk); (try clear hi)))
  repeat (go_quiet (first | (go_at_call 44; (with_reducible refine (field_GF_in.calls g s0_0 s0_1 s0_2 s0_3 s0_4 s0_5 a1 t130 t131 t132 t133 w0 _ ?side1 ?side2 A4.out).mono ?_); (case side1 => repeat (first | (with_reducible first | exact HI0.out | apply IsS68.alloc | apply IsS68.drewN | apply IsS68.drew | apply IsS68.set_0 | apply IsS68.set_1 | apply IsS68.set_3) | exact HI0.out)); (case side2 => repeat (first | (with_reducible first | exact HB.out | apply bA | apply bN | apply bD | refine bS ?_ (IsS68.ge HI0.out)) | exact HB.out)); rintro e w6 ⟨rfl, hi, hb, hk⟩; have n0_ := Q9a.mk (KeepBut.trans (by repeat (first | (with_reducible first | exact HK.out | apply KeepBut.set_ | apply keep_drewN | apply keep_drew | apply keep_alloc) | exact HK.out)) hk (.inl rfl)); have n1_ := Q9a.mk (hb); have n2_ := Q9a.mk (hi); clear HK; clear HB; clear HI0; have HK := n0_; have HB := n1_; have HI0 := n2_; clear n0_ n1_ n2_; (try clear hb); (try clear hb2); (try clear hk); (try clear hi))); try go_wp2_with (first | (go_at_call 44; (with_reducible refine (field_GF_in.calls g s0_0 s0_1 s0_2 s0_3 s0_4 s0_5 a1 t130 t131 t132 t133 w0 _ ?side1 ?side2 A4.out).mono ?_); (case side1 => repeat (first | (with_reducible first | exact HI0.out | apply IsS68.alloc | apply IsS68.drewN | apply IsS68.drew | apply IsS68.set_0 | apply IsS68.set_1 | apply IsS68.set_3) | exact HI0.out)); (case side2 => repeat (first | (with_reducible first | exact HB.out | apply bA | apply bN | apply bD | refine bS ?_ (IsS68.ge HI0.out)) | exact HB.out)); rintro e w6 ⟨rfl, hi, hb, hk⟩; have n0_ := Q9a.mk (KeepBut.trans (by repeat (first | (with_reducible first | exact HK.out | apply KeepBut.set_ | apply keep_drewN | apply keep_drew | apply keep_alloc) | exact HK.out)) hk (.inl rfl)); have n1_ := Q9a.mk (hb); have n2_ := Q9a.mk (hi); clear HK; clear HB; clear HI0; have HK := n0_; have HB := n1_; have HI0 := n2_; clear n0_ n1_ n2_; (try clear hb); (try clear hb2); (try clear hk); (try clear hi))))
  go_ret2
  exact ⟨by first | rfl | (simp [eN, eS] <;> rfl) | (simp [*, eN, eS] <;> rfl), by repeat (first | (with_reducible first | exact HI0.out | apply IsS68.alloc | apply IsS68.drewN | apply IsS68.drew | apply IsS68.set_0 | apply IsS68.set_1 | apply IsS68.set_3) | exact HI0.out), by repeat (first | (with_reducible first | exact HB.out | apply bA | apply bN | apply bD | refine bS ?_ (IsS68.ge HI0.out)) | exact HB.out), by repeat (first | (with_reducible first | exact HK.out | apply KeepBut.set_ | apply keep_drewN | apply keep_drew | apply keep_alloc) | exact HK.out)⟩
 ·rw [if_neg c5] at H
  have c5b0 : (a2 == 0) = false := beq_eq_false_iff_ne.mpr c5
  have c5b1 : (a2 != 0) = true := bne_iff_ne.mpr c5
  have HC7 := Q9a.mk H
  clear H
  go_enter Try.func16, Try.ntmps16
  go_upto_region 4 with (first | (go_at_call 44; (with_reducible refine (field_GF_in.calls g s0_0 s0_1 s0_2 s0_3 s0_4 s0_5 a1 t130 t131 t132 t133 w0 _ ?side1 ?side2 A4.out).mono ?_); (case side1 => repeat (first | (with_reducible first | exact HI0.out | apply IsS68.alloc | apply IsS68.drewN | apply IsS68.drew | apply IsS68.set_0 | apply IsS68.set_1 | apply IsS68.set_3) | exact HI0.out)); (case side2 => repeat (first | (with_reducible first | exact HB.out | apply bA | apply bN | apply bD | refine bS ?_ (IsS68.ge HI0.out)) | exact HB.out)); rintro e w8 ⟨rfl, hi, hb, hk⟩; have n0_ := Q9a.mk (KeepBut.trans (by repeat (first | (with_reducible first | exact HK.out | apply KeepBut.set_ | apply keep_drewN | apply keep_drew | apply keep_alloc) | exact HK.out)) hk (.inl rfl)); have n1_ := Q9a.mk (hb); have n2_ := Q9a.mk (hi); clear HK; clear HB; clear HI0; have HK := n0_; have HB := n1_; have HI0 := n2_; clear n0_ n1_ n2_; (try clear hb); (try clear hb2); (try clear hk); (try clear hi)))
  repeat (go_quiet (first | (go_at_call 44; (with_reducible refine (field_GF_in.calls g s0_0 s0_1 s0_2 s0_3 s0_4 s0_5 a1 t130 t131 t132 t133 w0 _ ?side1 ?side2 A4.out).mono ?_); (case side1 => repeat (first | (with_reducible first | exact HI0.out | apply IsS68.alloc | apply IsS68.drewN | apply IsS68.drew | apply IsS68.set_0 | apply IsS68.set_1 | apply IsS68.set_3) | exact HI0.out)); (case side2 => repeat (first | (with_reducible first | exact HB.out | apply bA | apply bN | apply bD | refine bS ?_ (IsS68.ge HI0.out)) | exact HB.out)); rintro e w8 ⟨rfl, hi, hb, hk⟩; have n0_ := Q9a.mk (KeepBut.trans (by repeat (first | (with_reducible first | exact HK.out | apply KeepBut.set_ | apply keep_drewN | apply keep_drew | apply keep_alloc) | exact HK.out)) hk (.inl rfl)); have n1_ := Q9a.mk (hb); have n2_ := Q9a.mk (hi); clear HK; clear HB; clear HI0; have HK := n0_; have HB := n1_; have HI0 := n2_; clear n0_ n1_ n2_; (try clear hb); (try clear hb2); (try clear hk); (try clear hi))); go_upto_region 4 with (first | (go_at_call 44; (with_reducible refine (field_GF_in.calls g s0_0 s0_1 s0_2 s0_3 s0_4 s0_5 a1 t130 t131 t132 t133 w0 _ ?side1 ?side2 A4.out).mono ?_); (case side1 => repeat (first | (with_reducible first | exact HI0.out | apply IsS68.alloc | apply IsS68.drewN | apply IsS68.drew | apply IsS68.set_0 | apply IsS68.set_1 | apply IsS68.set_3) | exact HI0.out)); (case side2 => repeat (first | (with_reducible first | exact HB.out | apply bA | apply bN | apply bD | refine bS ?_ (IsS68.ge HI0.out)) | exact HB.out)); rintro e w8 ⟨rfl, hi, hb, hk⟩; have n0_ := Q9a.mk (KeepBut.trans (by repeat (first | (with_reducible first | exact HK.out | apply KeepBut.set_ | apply keep_drewN | apply keep_drew | apply keep_alloc) | exact HK.out)) hk (.inl rfl)); have n1_ := Q9a.mk (hb); have n2_ := Q9a.mk (hi); clear HK; clear HB; clear HI0; have HK := n0_; have HB := n1_; have HI0 := n2_; clear n0_ n1_ n2_; (try clear hb); (try clear hb2); (try clear hk); (try clear hi))))
  (try simp only [Act.put, sz1, sz2, sz3])
  go_cut [15] (fun v15 wc => ∃ (kq : Nat) (x15_6 : Bool), v15 = .bool x15_6 ∧ Q9a (field_GF_Pow.j0 kq t130 a2 x15_6 t131 t132 s0_2 t133 s0_4 s0_5 = some (r1, r2, r3, r4, r5)) ∧ Q9a (kq ≤ k) ∧ Q9a (IsS68 w0 wc g t131 t132 s0_2 t133 s0_4 s0_5) ∧ Q9a (KeepBut w wc g none) ∧ Q9a (Below w0.heap.size w0 wc))
  case first =>
   have H := HC7.out
   clear HC7
   by_cases c9 : t130 = 0
   ·rw [if_pos c9] at H
    have c9b0 : (t130 == 0) = true := beq_iff_eq.mpr c9
    have c9b1 : (t130 != 0) = false := bne_eq_false_iff_eq.mpr c9
    clear c9
    (first | rw [c9b0] | (simp only [i64_w, i32_w]; rw [c9b0]) | skip)
    have H' := Q9a.mk H
    clear H
    go_wp2
    repeat (go_quiet (fail); try go_wp2)
    go_meet
    case rel => exact ⟨_, (decide (a2 < 0)), (by first | rfl | (simp; done) | (simp [*]; done)), H', ⟨by first | omega | exact Nat.le_refl _⟩, ⟨by repeat (first | (with_reducible first | exact HI0.out | apply IsS68.alloc | apply IsS68.drewN | apply IsS68.drew | apply IsS68.set_0 | apply IsS68.set_1 | apply IsS68.set_3) | exact HI0.out)⟩, ⟨by repeat (first | (with_reducible first | exact HK.out | apply KeepBut.set_ | apply keep_drewN | apply keep_drew | apply keep_alloc) | exact HK.out)⟩, ⟨by repeat (first | (with_reducible first | exact HB.out | apply bA | apply bN | apply bD | refine bS ?_ (IsS68.ge HI0.out)) | exact HB.out)⟩⟩
   ·rw [if_neg c9] at H
    have c9b0 : (t130 == 0) = false := beq_eq_false_iff_ne.mpr c9
    have c9b1 : (t130 != 0) = true := bne_iff_ne.mpr c9
    (first | rw [c9b0] | (simp only [i64_w, i32_w]; rw [c9b0]) | skip)
    have H' := Q9a.mk H
    clear H
    go_wp2
    repeat (go_quiet (fail); try go_wp2)
    go_meet
    case rel => exact ⟨_, (false), (by first | rfl | (simp; done) | (simp [*]; done)), H', ⟨by first | omega | exact Nat.le_refl _⟩, ⟨by repeat (first | (with_reducible first | exact HI0.out | apply IsS68.alloc | apply IsS68.drewN | apply IsS68.drew | apply IsS68.set_0 | apply IsS68.set_1 | apply IsS68.set_3) | exact HI0.out)⟩, ⟨by repeat (first | (with_reducible first | exact HK.out | apply KeepBut.set_ | apply keep_drewN | apply keep_drew | apply keep_alloc) | exact HK.out)⟩, ⟨by repeat (first | (with_reducible first | exact HB.out | apply bA | apply bN | apply bD | refine bS ?_ (IsS68.ge HI0.out)) | exact HB.out)⟩⟩
  case rest =>
   clear HC7
   try clear c1
   try clear p2
   try clear c5
   try clear c5b0
   try clear c5b1
   try clear c9
   try clear c9b0
   try clear c9b1
   obtain ⟨kq, x15_6, rfl, HA, HJ6, HI0, HK, HB⟩ := hcut
   cases kq with
   | zero => exact absurd HA.out (by simp [field_GF_Pow.j0])
   | succ kj6 =>
    have H := HA.out
    clear HA
    simp only [field_GF_Pow.j0] at H
    by_cases c10 : x15_6 = true
    ·subst c10
     have H1 : (some (0, 7, t131, t132, t133)) = some (r1, r2, r3, r4, r5) := by rw [if_pos rfl] at H; exact H
     clear H
     have H := H1
     clear H1
     simp only [Option.some.injEq, Prod.mk.injEq] at H
     obtain ⟨rfl, rfl, rfl, rfl, rfl⟩ := H
     go_wp2
     repeat (go_quiet (fail); try go_wp2)
     go_ret2
     exact ⟨by first | rfl | (simp [eN, eS] <;> rfl) | (simp [*, eN, eS] <;> rfl), by repeat (first | (with_reducible first | exact HI0.out | apply IsS68.alloc | apply IsS68.drewN | apply IsS68.drew | apply IsS68.set_0 | apply IsS68.set_1 | apply IsS68.set_3) | exact HI0.out), by repeat (first | (with_reducible first | exact HB.out | apply bA | apply bN | apply bD | refine bS ?_ (IsS68.ge HI0.out)) | exact HB.out), by repeat (first | (with_reducible first | exact HK.out | apply KeepBut.set_ | apply keep_drewN | apply keep_drew | apply keep_alloc) | exact HK.out)⟩
    ·replace c10 := Bool.eq_false_iff.mpr c10
     subst c10
     have H1 : (if t130 = 0 then (some (0, 0, t131, t132, t133)) else (if (wrap64 (t133 - 1)) = 0 then (none) else (if 0 ≤ t130 then (if t130 < (s0_5.length : Int) then (if 0 ≤ (Int.tmod (wrap64 ((rd s0_5 t130) * (Int.tmod (wrap64 ((Int.tmod a2 (wrap64 (t133 - 1))) + (wrap64 (t133 - 1)))) (wrap64 (t133 - 1))))) (wrap64 (t133 - 1))) then (if (Int.tmod (wrap64 ((rd s0_5 t130) * (Int.tmod (wrap64 ((Int.tmod a2 (wrap64 (t133 - 1))) + (wrap64 (t133 - 1)))) (wrap64 (t133 - 1))))) (wrap64 (t133 - 1))) < (s0_4.length : Int) then (some (rd s0_4 (Int.tmod (wrap64 ((rd s0_5 t130) * (Int.tmod (wrap64 ((Int.tmod a2 (wrap64 (t133 - 1))) + (wrap64 (t133 - 1)))) (wrap64 (t133 - 1))))) (wrap64 (t133 - 1))), 0, t131, t132, t133)) else (none)) else (none)) else (none)) else (none)))) = some (r1, r2, r3, r4, r5) := by rw [if_neg (show ¬ (false = true) by decide)] at H; exact H
     clear H
     have H := H1
     clear H1
     by_cases c11 : t130 = 0
     ·rw [if_pos c11] at H
      have c11b0 : (t130 == 0) = true := beq_iff_eq.mpr c11
      have c11b1 : (t130 != 0) = false := bne_eq_false_iff_eq.mpr c11
      clear c11
      simp only [Option.some.injEq, Prod.mk.injEq] at H
      obtain ⟨rfl, rfl, rfl, rfl, rfl⟩ := H
      go_wp2
      repeat (go_quiet (fail); try go_wp2)
      go_ret2
      exact ⟨by first | rfl | (simp [eN, eS] <;> rfl) | (simp [*, eN, eS] <;> rfl), by repeat (first | (with_reducible first | exact HI0.out | apply IsS68.alloc | apply IsS68.drewN | apply IsS68.drew | apply IsS68.set_0 | apply IsS68.set_1 | apply IsS68.set_3) | exact HI0.out), by repeat (first | (with_reducible first | exact HB.out | apply bA | apply bN | apply bD | refine bS ?_ (IsS68.ge HI0.out)) | exact HB.out), by repeat (first | (with_reducible first | exact HK.out | apply KeepBut.set_ | apply keep_drewN | apply keep_drew | apply keep_alloc) | exact HK.out)⟩
     ·rw [if_neg c11] at H
      have c11b0 : (t130 == 0) = false := beq_eq_false_iff_ne.mpr c11
      have c11b1 : (t130 != 0) = true := bne_iff_ne.mpr c11
      by_cases c12 : (wrap64 (t133 - 1)) = 0
      ·rw [if_pos c12] at H
       exact absurd H (by simp)
      ·rw [if_neg c12] at H
       have c12b0 : ((wrap64 (t133 - 1)) == 0) = false := beq_eq_false_iff_ne.mpr c12
       have c12b1 : ((wrap64 (t133 - 1)) != 0) = true := bne_iff_ne.mpr c12
       by_cases c13 : 0 ≤ t130
       ·rw [if_pos c13] at H
        have c13b0 : decide (0 ≤ t130) = true := decide_eq_true c13
        clear c13
        by_cases c14 : t130 < (s0_5.length : Int)
        ·rw [if_pos c14] at H
         have c14b0 : decide (t130 < (s0_5.length : Int)) = true := decide_eq_true c14
         clear c14
         obtain ⟨ji15, hji15⟩ : ∃ j_ : Int, (Int.tmod (wrap64 ((rd s0_5 t130) * (Int.tmod (wrap64 ((Int.tmod a2 (wrap64 (t133 - 1))) + (wrap64 (t133 - 1)))) (wrap64 (t133 - 1))))) (wrap64 (t133 - 1))) = j_ := ⟨_, rfl⟩
         replace H : (if 0 ≤ (ji15) then (if (ji15) < (s0_4.length : Int) then (some (rd s0_4 (ji15), 0, t131, t132, t133)) else (none)) else (none)) = some (r1, r2, r3, r4, r5) := by first | (rw [hji15] at H; exact H) | (simp only [hji15] at H ⊢; exact H)
         by_cases c16 : 0 ≤ (ji15)
         ·rw [if_pos c16] at H
          have c16b0 : decide (0 ≤ (ji15)) = true := decide_eq_true c16
          clear c16
          by_cases c17 : (ji15) < (s0_4.length : Int)
          ·rw [if_pos c17] at H
           have c17b0 : decide ((ji15) < (s0_4.length : Int)) = true := decide_eq_true c17
           clear c17
           simp only [Option.some.injEq, Prod.mk.injEq] at H
           obtain ⟨rfl, rfl, rfl, rfl, rfl⟩ := H
           obtain ⟨ASz18_2, cSz18_2, ASz18_4, cSz18_4, ASz18_5, cSz18_5, HGz18, hgz18, HSz18_2, HSz18_4, HSz18_5⟩ := HI0.out
           have hcz18_0 := cellS68_0 HGz18
           have hcz18_1 := cellS68_1 HGz18
           have hcz18_2 := cellS68_2 HGz18
           have hcz18_3 := cellS68_3 HGz18
           have hcz18_4 := cellS68_4 HGz18
           have hcz18_5 := cellS68_5 HGz18
           have hfz18_0 := kF HGz18 0
           have hfz18_1 := kF HGz18 1
           have hfz18_3 := kF HGz18 3
           clear HGz18 hgz18
           have p134 : 0 ≤ (t130 : Int) := of_decide_eq_true (by first | (with_reducible assumption) | assumption)
           have q134 : t130 < (s0_5.length : Int) := of_decide_eq_true (by first | (with_reducible assumption) | assumption)
           obtain ⟨ad134, e134, hx134_0⟩ := Kd.at_int HSz18_5 t130 p134 q134
           cases e134
           replace hx134_0 := pw_cell_below HB.out hx134_0
           replace p134 := eq_true p134
           replace q134 := eq_true q134
           have p135 : 0 ≤ ((ji15) : Int) := of_decide_eq_true (by first | (with_reducible assumption) | assumption)
           have q135 : (ji15) < (s0_4.length : Int) := of_decide_eq_true (by first | (with_reducible assumption) | assumption)
           obtain ⟨ad135, e135, hx135_0⟩ := Kd.at_int HSz18_4 (ji15) p135 q135
           cases e135
           replace hx135_0 := pw_cell_below HB.out hx135_0
           replace p135 := eq_true p135
           replace q135 := eq_true q135
           go_wp2
           repeat (go_quiet (fail); try go_wp2)
           go_ret2
           exact ⟨by first | rfl | (simp [eN, eS] <;> rfl) | (simp only [← hji15]; first | rfl | (simp [eN, eS] <;> rfl)) | (simp [*, eN, eS] <;> rfl), by repeat (first | (with_reducible first | exact HI0.out | apply IsS68.alloc | apply IsS68.drewN | apply IsS68.drew | apply IsS68.set_0 | apply IsS68.set_1 | apply IsS68.set_3) | exact HI0.out), by repeat (first | (with_reducible first | exact HB.out | apply bA | apply bN | apply bD | refine bS ?_ (IsS68.ge HI0.out)) | exact HB.out), by repeat (first | (with_reducible first | exact HK.out | apply KeepBut.set_ | apply keep_drewN | apply keep_drew | apply keep_alloc) | exact HK.out)⟩
          ·rw [if_neg c17] at H
           exact absurd H (by simp)
         ·rw [if_neg c16] at H
          exact absurd H (by simp)
        ·rw [if_neg c14] at H
         exact absurd H (by simp)
       ·rw [if_neg c13] at H
        exact absurd H (by simp)
end
end Go.Proofs.Ytbohbfggmnjpdaa.GS
end
-- GmL
section
namespace Go.Proofs.Ytbohbfggmnjpdaa.Hand
open Go.RowKit Go.Proofs.YtbohbfggmnjpdaaW.PrintWords
theorem w64 {n : Int} (h0 : -9223372036854775808 ≤ n) (h1 : n < 9223372036854775808) : wrap64 n = n := by
 unfold wrap64; omega
theorem w64n (n : Nat) (h : n < 9223372036854775808) : wrap64 (n : Int) = n := w64 (by omega) (by omega)
theorem GFok.isS {w : World} {b : Nat} {G : GFv} (h : GFok w b G) : GS.IsS68 w w b (G.F.p : Int) (G.F.m : Int) G.mod (G.q : Int) G.exp G.log := by
 obtain ⟨A2, c2, A4, c4, A5, c5, h4, h5, h6, h7, h8, h9, h10⟩ := h
 exact ⟨A2, c2, A4, c4, A5, c5, h4, trivial, h5, h7, h9⟩
theorem gs_in (G : GFv) (x : Int) : GS.field_GF_in.f (G.F.p : Int) (G.F.m : Int) G.mod (G.q : Int) G.exp G.log x = some (G.inn x, (G.F.p : Int), (G.F.m : Int), (G.q : Int)) := by
 unfold GS.field_GF_in.f GS.field_GF_Is.f Cw.GFv.inn Cw.GFv.is
 by_cases h : 0 ≤ x
 ·rw [if_pos h]
  by_cases h2 : x < (G.q : Int)
  ·simp [h, h2]
  ·simp [h2]
 ·rw [if_neg h]
  simp [h]
theorem rd_exp (G : GFv) {i : Nat} (h : i < G.q - 1) : rd G.exp (i : Int) = G.num (Cw.pw G.gen i) := by
 unfold rd; rw [Int.toNat_natCast]; exact G.exp_at h
theorem rd_log (G : GFv) {x : Int} (h : G.is x) : rd G.log x = (G.lg (G.el x) : Int) := by
 unfold rd; exact G.log_el h
theorem log_len (G : GFv) : (G.log.length : Int) = (G.q : Int) := by rw [G.log_length]
theorem exp_len (G : GFv) : (G.exp.length : Int) = ((G.q - 1 : Nat) : Int) := by rw [G.exp_length]
end Go.Proofs.Ytbohbfggmnjpdaa.Hand
end
-- GmA
section
namespace Go.Proofs.Ytbohbfggmnjpdaa.Hand
open Go.RowKit Go.Proofs.YtbohbfggmnjpdaaW.PrintWords
def field_GF_Is.f (a0 : GFv) (a1 : Int) : Option (Bool) := some (decide (a0.is a1))
theorem field_GF_Is.calls (b_a0 : Nat) (a0 : GFv) (a1 : Int) (r : Bool) (w : World) (hg0 : GFok w b_a0 a0) (h : field_GF_Is.f a0 a1 = some r) :
  Calls Try.prog 40 #[.pointer (some ⟨b_a0, 0, none⟩), .int .i64 a1] w fun e w' => e = .returned (.bool r) ∧ Below w.heap.size w w' := by
 obtain rfl := Option.some.inj h
 have hf : GS.field_GF_Is.f (a0.F.p : Int) (a0.F.m : Int) a0.mod (a0.q : Int) a0.exp a0.log a1 = some (decide (a0.is a1), (a0.F.p : Int), (a0.F.m : Int), (a0.q : Int)) := by
  unfold GS.field_GF_Is.f Cw.GFv.is
  by_cases h : 0 ≤ a1
  ·rw [if_pos h]; simp [h]
  ·rw [if_neg h]; simp [h]
 exact (GS.field_GF_Is.calls b_a0 _ _ _ _ _ _ a1 _ _ _ _ w w hg0.isS (Below.refl _ _) hf).mono fun e w' h => ⟨h.1, h.2.2.1⟩
theorem gs_mul (G : GFv) (x y : Int) : GS.field_GF_Mul.f (G.F.p : Int) (G.F.m : Int) G.mod (G.q : Int) G.exp G.log x y = some (G.mul x y, (G.F.p : Int), (G.F.m : Int), (G.q : Int)) := by
 have hq := G.q_le
 have hq2 := G.q_ge
 unfold GS.field_GF_Mul.f
 rw [gs_in]; simp only [Option.bind_some]; rw [gs_in]; simp only [Option.bind_some]
 by_cases hx : G.inn x = 0
 ·have hm : G.mul x y = 0 := by
   unfold Cw.GFv.mul; rw [G.el_eq_zero.2 hx, Cw.zero_mul, G.num_zero]
  rw [if_pos hx, hm]
 by_cases hy : G.inn y = 0
 ·have hm : G.mul x y = 0 := by
   unfold Cw.GFv.mul; rw [G.el_eq_zero.2 hy, Cw.mul_zero, G.num_zero]
  rw [if_neg hx, if_pos hy, hm]
 have hxe : G.el x ≠ 0 := fun h => hx (G.el_eq_zero.1 h)
 have hye : G.el y ≠ 0 := fun h => hy (G.el_eq_zero.1 h)
 have ix := G.inn_is x
 have iy := G.inn_is y
 have lx := G.lg_spec hxe
 have ly := G.lg_spec hye
 have hlog := log_len G
 have hexp := exp_len G
 rw [rd_log G ix, rd_log G iy, G.el_inn, G.el_inn, w64 (n := (G.q : Int) - 1) (by omega) (by omega), ← Int.natCast_add, w64n _ (by omega),
  show (G.q : Int) - 1 = ((G.q - 1 : Nat) : Int) from by omega, Cw.tmod_nat]
 have hlt := Nat.mod_lt (G.lg (G.el x) + G.lg (G.el y)) (show 0 < G.q - 1 by omega)
 rw [if_neg hx, if_neg hy, if_pos ix.1, if_pos (by rw [hlog]; exact ix.2), if_pos iy.1, if_pos (by rw [hlog]; exact iy.2), if_neg (by omega), if_pos (by omega), if_pos (by omega), rd_exp G hlt]
 unfold Cw.GFv.mul
 rw [G.pw_mod, Cw.pw_add, lx.2, ly.2]
def field_GF_Mul.f (a0 : GFv) (a1 : Int) (a2 : Int) : Option (Int) := some (a0.mul a1 a2)
theorem field_GF_Mul.calls (b_a0 : Nat) (a0 : GFv) (a1 : Int) (a2 : Int) (r : Int) (w : World) (hg0 : GFok w b_a0 a0) (h : field_GF_Mul.f a0 a1 a2 = some r) :
  Calls Try.prog 48 #[.pointer (some ⟨b_a0, 0, none⟩), .int .i64 a1, .int .i64 a2] w fun e w' => e = .returned (.int .i64 r) ∧ Below w.heap.size w w' := by
 obtain rfl := Option.some.inj h
 exact (GS.field_GF_Mul.calls b_a0 _ _ _ _ _ _ a1 a2 _ _ _ _ w w hg0.isS (Below.refl _ _) (gs_mul a0 a1 a2)).mono fun e w' h => ⟨h.1, h.2.2.1⟩
theorem tmod_norm (n : Int) (k : Nat) (hk : 0 < k) : Int.tmod (Int.tmod n k + k) k = n % (k : Int) := by
 have h1 := Int.tmod_lt_of_pos n (show (0 : Int) < (k : Int) by omega)
 have h2 := Int.lt_tmod_of_pos n (show (0 : Int) < (k : Int) by omega)
 rw [Int.tmod_eq_emod_of_nonneg (by omega)]
 have h3 := Int.tmod_add_mul_tdiv n (k : Int)
 conv => rhs; rw [← h3]
 rw [Int.add_mul_emod_self_left, Int.add_emod_right]
theorem gs_pow (G : GFv) (x n : Int) : ∀ k, GS.field_GF_Pow.f (k + 1) (G.F.p : Int) (G.F.m : Int) G.mod (G.q : Int) G.exp G.log x n = some ((G.pow x n).1, (G.pow x n).2, (G.F.p : Int), (G.F.m : Int), (G.q : Int)) := by
 intro k
 have hq := G.q_le
 have hq2 := G.q_ge
 unfold GS.field_GF_Pow.f
 rw [gs_in]; simp only [Option.bind_some]
 unfold Cw.GFv.pow
 by_cases hn : n = 0
 ·rw [if_pos hn, if_pos hn]
 rw [if_neg hn, if_neg hn]
 by_cases hx : G.inn x = 0
 ·rw [if_pos hx, if_pos (G.el_eq_zero.2 hx)]
  simp only [GS.field_GF_Pow.j0]
  by_cases hneg : n < 0
  ·rw [if_pos (by simpa using hneg), if_pos hneg]
  ·rw [if_neg (by simpa using hneg), if_pos hx, if_neg hneg]
 ·have hxe : G.el x ≠ 0 := fun h => hx (G.el_eq_zero.1 h)
  rw [if_neg hx, if_neg hxe]
  simp only [GS.field_GF_Pow.j0]
  have ix := G.inn_is x
  have lx := G.lg_spec hxe
  have hlog := log_len G
  have hexp := exp_len G
  have hk : 0 < G.q - 1 := by omega
  have b1 := Int.tmod_lt_of_pos n (show (0 : Int) < ((G.q - 1 : Nat) : Int) by omega)
  have b2 := Int.lt_tmod_of_pos n (show (0 : Int) < ((G.q - 1 : Nat) : Int) by omega)
  have b3 := Int.emod_nonneg n (show ((G.q - 1 : Nat) : Int) ≠ 0 by omega)
  have b4 := Int.emod_lt_of_pos n (show (0 : Int) < ((G.q - 1 : Nat) : Int) by omega)
  rw [w64 (n := (G.q : Int) - 1) (by omega) (by omega), show (G.q : Int) - 1 = ((G.q - 1 : Nat) : Int) from by omega, w64 (n := Int.tmod n _ + _) (by omega) (by omega), tmod_norm n _ hk, rd_log G ix, G.el_inn]
  obtain ⟨j, hj⟩ : ∃ j : Nat, n % ((G.q - 1 : Nat) : Int) = (j : Int) := ⟨(n % ((G.q - 1 : Nat) : Int)).toNat, by omega⟩
  rw [hj] at b4 ⊢
  have hb : G.lg (G.el x) * j ≤ 256 * 256 := Nat.mul_le_mul (by omega) (by omega)
  have hlt := Nat.mod_lt (G.lg (G.el x) * j) hk
  rw [← Int.natCast_mul, w64n _ (by omega), Cw.tmod_nat, if_neg (by simp), if_neg hx, if_neg (by omega), if_pos ix.1, if_pos (by rw [hlog]; exact ix.2), if_pos (by omega), if_pos (by omega), rd_exp G hlt, Int.toNat_natCast, G.pw_mod, Cw.pw_mul, lx.2]
def field_GF_Pow.f (a0 : GFv) (a1 : Int) (a2 : Int) : Option (Int × Int) := some (a0.pow a1 a2)
theorem field_GF_Pow.calls (b_a0 : Nat) (a0 : GFv) (a1 : Int) (a2 : Int) (r1 : Int) (r2 : Int) (w : World) (hg0 : GFok w b_a0 a0) (h : field_GF_Pow.f a0 a1 a2 = some (r1, r2)) :
  Calls Try.prog 16 #[.pointer (some ⟨b_a0, 0, none⟩), .int .i64 a1, .int .i64 a2] w fun e w' => e = .returned (.tuple #[.int .i64 r1, .int .i64 r2]) ∧ Below w.heap.size w w' := by
 have h' := Option.some.inj h
 obtain ⟨rfl, rfl⟩ : (a0.pow a1 a2).1 = r1 ∧ (a0.pow a1 a2).2 = r2 := by rw [h']; exact ⟨rfl, rfl⟩
 exact (GS.field_GF_Pow.calls 1 b_a0 _ _ _ _ _ _ a1 a2 _ _ _ _ _ w w hg0.isS (Below.refl _ _) (gs_pow a0 a1 a2 0)).mono fun e w' h => ⟨h.1, h.2.2.1⟩
end Go.Proofs.Ytbohbfggmnjpdaa.Hand
end
-- Nl
section
namespace Go.Proofs.Ytbohbfggmnjpdaa.Hand
noncomputable section
open Go.RowKit Go.Proofs.Ytbohbfggmnjpdaa.P Go.Proofs.YtbohbfggmnjpdaaW.PrintWords Go.Proofs.YtbohbfggmnjpdaaW.PrintLast Go.Proofs.YtbohbfggmnjpdaaW.PrintMore
theorem results_c1 {P : Program} {fn : Func} {p : Tmp} {ty : TypeId} (h : fn.results = #[.cell p ty]) (tmps : Array Value) (w : World) (g : Nat) (t : TypeId) (cs : Array Value) (fr : Nat × Nat) (d : TypeDesc)
  (hp : tmps.getD p undef = .pointer (some ⟨g, 0, none⟩)) (hg : w.heap[g]? = some (.cells cs t fr))
  (hu : P.underlying ty = some d) (hd : (match d with | .struct _ | .array _ _ => true | _ => false) = true) (hi : (P.info? ty).map (·.size) = some cs.size) :
  (results fn tmps).run P w = .ok (.agg cs) w := by
 have hp' : tmps[p]?.getD undef = .pointer (some ⟨g, 0, none⟩) := by simpa using hp
 simp [results, h, hp', asAddr, run_loadVar_row w g t ty cs fr d hg hu hd hi]
theorem blk_put8 {w : World} {g : Nat} {t : TypeId} {z a0 a1 a2 a3 a4 a5 a6 a7 : Value} (h : w.heap[g]? = some (.cells #[z, z, z, z, z, z, z, z] t (0, 0))) :
  ((((((((w.setCell ⟨g, 0, none⟩ a0).setCell ⟨g, 1, none⟩ a1).setCell ⟨g, 2, none⟩ a2).setCell ⟨g, 3, none⟩ a3).setCell ⟨g, 4, none⟩ a4).setCell ⟨g, 5, none⟩ a5).setCell ⟨g, 6, none⟩ a6).setCell ⟨g, 7, none⟩ a7).heap[g]? = some (.cells #[a0, a1, a2, a3, a4, a5, a6, a7] t (0, 0)) := by
 have h0 := blk_put (cs' := #[a0, z, z, z, z, z, z, z]) h 0 a0 rfl
 have h1 := blk_put (cs' := #[a0, a1, z, z, z, z, z, z]) h0 1 a1 rfl
 have h2 := blk_put (cs' := #[a0, a1, a2, z, z, z, z, z]) h1 2 a2 rfl
 have h3 := blk_put (cs' := #[a0, a1, a2, a3, z, z, z, z]) h2 3 a3 rfl
 have h4 := blk_put (cs' := #[a0, a1, a2, a3, a4, z, z, z]) h3 4 a4 rfl
 have h5 := blk_put (cs' := #[a0, a1, a2, a3, a4, a5, z, z]) h4 5 a5 rfl
 have h6 := blk_put (cs' := #[a0, a1, a2, a3, a4, a5, a6, z]) h5 6 a6 rfl
 exact blk_put (cs' := #[a0, a1, a2, a3, a4, a5, a6, a7]) h6 7 a7 rfl
set_option maxHeartbeats 800000 in
set_option maxRecDepth 100000 in
theorem number_wheel.calls (w : World) : Calls Try.prog 73 #[] w fun e w' => e = .returned (.agg #[.int .i64 1, .int .i64 7, .int .i64 11, .int .i64 13, .int .i64 17, .int .i64 19, .int .i64 23, .int .i64 29]) ∧ Below w.heap.size w w' := by
 have hu94 := Try.underlying94
 have HB := Q9a.mk (Below.refl w.heap.size w)
 go_enter Try.func73, Try.ntmps73
 go_wp2_with (first | ((with_reducible refine gate_dst (N := 0) rfl ?_); refine box_event ?hg (N := 0) ?hd (cs := #[.int .i64 0, .int .i64 0, .int .i64 0, .int .i64 0, .int .i64 0, .int .i64 0, .int .i64 0, .int .i64 0]) (t := 94) ?hr ?_; (case hd => rfl); (case hg => rfl); (case hr => first | (go_simp; done) | (go_simp; rfl)); intro gr hg w4 hbox hb; have n0_ := Q9a.mk (bP HB.out hb); have n1_ := Q9a.mk hbox; have n2_ := Q9a.mk (show w.heap.size ≤ gr by rw [hg]; exact bZ HB.out); clear HB; have HB := n0_; have BKr := n1_; have GEr := n2_; clear n0_ n1_ n2_ hb hbox hg; have hc0 := kC BKr.out 0; have hc1 := kC BKr.out 1; have hc2 := kC BKr.out 2; have hc3 := kC BKr.out 3; have hc4 := kC BKr.out 4; have hc5 := kC BKr.out 5; have hc6 := kC BKr.out 6; have hc7 := kC BKr.out 7; have hf0 := kF BKr.out 0; have hf1 := kF BKr.out 1; have hf2 := kF BKr.out 2; have hf3 := kF BKr.out 3; have hf4 := kF BKr.out 4; have hf5 := kF BKr.out 5; have hf6 := kF BKr.out 6; have hf7 := kF BKr.out 7))
 refine bodyPost_ret (results_c1 rfl _ _ gr 94 #[.int .i64 1, .int .i64 7, .int .i64 11, .int .i64 13, .int .i64 17, .int .i64 19, .int .i64 23, .int .i64 29] (0, 0) _ rfl (by exact blk_put8 BKr.out) Try.underlying94 rfl (by kernel_rfl)) rfl ?_
 exact ⟨rfl, by repeat (with_reducible first | exact HB.out | refine bS ?_ GEr.out)⟩
theorem run_index8_0 (w : World) : (Instr.index 94 (.agg #[.int .i64 1, .int .i64 7, .int .i64 11, .int .i64 13, .int .i64 17, .int .i64 19, .int .i64 23, .int .i64 29]) (.int .i64 0)).run Try.prog w = .ok (.int .i64 1) w := by kernel_rfl
theorem run_index8_1 (w : World) : (Instr.index 94 (.agg #[.int .i64 1, .int .i64 7, .int .i64 11, .int .i64 13, .int .i64 17, .int .i64 19, .int .i64 23, .int .i64 29]) (.int .i64 1)).run Try.prog w = .ok (.int .i64 7) w := by kernel_rfl
theorem run_index8_2 (w : World) : (Instr.index 94 (.agg #[.int .i64 1, .int .i64 7, .int .i64 11, .int .i64 13, .int .i64 17, .int .i64 19, .int .i64 23, .int .i64 29]) (.int .i64 2)).run Try.prog w = .ok (.int .i64 11) w := by kernel_rfl
theorem run_index8_3 (w : World) : (Instr.index 94 (.agg #[.int .i64 1, .int .i64 7, .int .i64 11, .int .i64 13, .int .i64 17, .int .i64 19, .int .i64 23, .int .i64 29]) (.int .i64 3)).run Try.prog w = .ok (.int .i64 13) w := by kernel_rfl
theorem run_index8_4 (w : World) : (Instr.index 94 (.agg #[.int .i64 1, .int .i64 7, .int .i64 11, .int .i64 13, .int .i64 17, .int .i64 19, .int .i64 23, .int .i64 29]) (.int .i64 4)).run Try.prog w = .ok (.int .i64 17) w := by kernel_rfl
attribute [local go_sem] run_index8_0 run_index8_1 run_index8_2 run_index8_3 run_index8_4
def leastV (n : Int) : Int := if Int.tmod n 2 = 0 then 2 else if Int.tmod n 3 = 0 then 3 else if Int.tmod n 5 = 0 then 5 else (if 49 > n then n else if Int.tmod n 7 = 0 then 7 else (if 121 > n then n else if Int.tmod n 11 = 0 then 11 else (if 169 > n then n else if Int.tmod n 13 = 0 then 13 else n)))
def number_least.f (a0 : Int) : Option Int := if 2 ≤ a0 ∧ a0 ≤ 255 then some (leastV a0) else none
theorem reps_lit3 {W : World} {base : Nat} {ok : Nat → Prop} : Reps ((Kd.int .i64).M W base ok) (Kd.int .i64).sz [2, 3, 5] [.int .i64 2, .int .i64 3, .int .i64 5] := Kd.reps_scalar (enc := fun x : Int => Value.int .i64 x) [2, 3, 5]
set_option maxHeartbeats 1000000 in
set_option maxRecDepth 100000 in
theorem number_least.calls (a0 : Int) (r : Int) (w : World) (h : number_least.f a0 = some r) :
  Calls Try.prog 70 #[.int .i64 a0] w fun e w' => e = .returned (.int .i64 r) ∧ Below w.heap.size w w' := by
 obtain ⟨n, rfl⟩ : ∃ n, n = a0 := ⟨_, rfl⟩
 unfold number_least.f at h
 split at h
 case isFalse => cases h
 rename_i hn
 have hr := (Option.some.inj h).symm
 clear h
 have HN := Q9a.mk hn
 have HRr := Q9a.mk hr
 clear hn hr
 have HB := Q9a.mk (Below.refl w.heap.size w)
 have hu94 := Try.underlying94
 go_enter Try.func70, Try.ntmps70
 go_wp2
 go_step3
 go_wp2_with (first | ((with_reducible refine gate_dst (N := 10) rfl ?_); refine Kd.R_lit (Kd.int .i64) _ 3 ?hg (N := 10) ?hd (xs := ([2, 3, 5] : List Int)) (inner := [.int .i64 2, .int .i64 3, .int .i64 5]) (ok := fun _ => True) (okp := fun _ => True) ?hr ?hp (fun _ hk => hk) trivial (Below.refl _ _) (Nat.le_refl _) (by simp) ?_; (case hd => rfl); (case hg => rfl); (case hr => first | (go_simp; done) | (go_simp; rfl)); (case hp => exact reps_lit3); intro vx w6 ho7 hb hg_ hnew_; clear hg_ hnew_; have n0_ := Q9a.mk (Kd.R_lower ho7 (bZ HB.out)); have n1_ := Q9a.mk (bP HB.out hb); clear HB; have HX := n0_; have HB := n1_; clear n0_ n1_ hb ho7; obtain ⟨gx, cx, hfx, -⟩ := Kd.R_form HX.out (by simp); subst hfx))
 go_loopg [12] 3 (fun kq v12 w' => ∃ i : Nat, v12 = .int .i64 (i : Int) ∧ Q9a (i + kq = 3) ∧ Q9a ((i = 0 ∧ r = leastV n) ∨ (i = 1 ∧ r = (if Int.tmod n 3 = 0 then 3 else if Int.tmod n 5 = 0 then 5 else (if 49 > n then n else if Int.tmod n 7 = 0 then 7 else (if 121 > n then n else if Int.tmod n 11 = 0 then 11 else (if 169 > n then n else if Int.tmod n 13 = 0 then 13 else n))))) ∨ (i = 2 ∧ r = (if Int.tmod n 5 = 0 then 5 else (if 49 > n then n else if Int.tmod n 7 = 0 then 7 else (if 121 > n then n else if Int.tmod n 11 = 0 then 11 else (if 169 > n then n else if Int.tmod n 13 = 0 then 13 else n))))) ∨ (i = 3 ∧ r = (if 49 > n then n else if Int.tmod n 7 = 0 then 7 else (if 121 > n then n else if Int.tmod n 11 = 0 then 11 else (if 169 > n then n else if Int.tmod n 13 = 0 then 13 else n))))) ∧ Q9a (Kd.R (Kd.int .i64) 3 w' w.heap.size (fun _ => True) (.slice (some ⟨gx, 0, none⟩) 3 cx) [2, 3, 5]) ∧ Q9a (Below w.heap.size w w'))
 case atStart => exact ⟨0, rfl, ⟨by omega⟩, ⟨Or.inl ⟨rfl, HRr.out⟩⟩, HX, HB⟩
 case round =>
  obtain ⟨i, rfl, HI, HV, HX, HB⟩ := hrel
  rcases HV.out with ⟨rfl, hv⟩ | HV'
  ·clear HV
   have HVi := Q9a.mk hv
   clear hv
   obtain ⟨hx, -⟩ := Kd.R_celln 0 HX.out (0 : Int) (by omega) (by simp)
   (try rw [show ((0 : Int)).toNat = 0 from rfl] at hx)
   have hx' : wr.cell? ⟨gx, 0, none⟩ = some (.int .i64 2) := hx
   clear hx
   by_cases c : Int.tmod n 2 = 0
   ·have cb : (Int.tmod n 2 == 0) = true := beq_iff_eq.mpr c
    have e1 : r = 2 := by rw [HVi.out]; unfold leastV; rw [if_pos c]
    clear c
    subst e1
    go_wp2
    try rw [Exit.noGoto_ret]
    go_ret
    exact ⟨rfl, HB.out⟩
   ·have cb : (Int.tmod n 2 == 0) = false := beq_eq_false_iff_ne.mpr c
    have e1 : r = (if Int.tmod n 3 = 0 then 3 else if Int.tmod n 5 = 0 then 5 else (if 49 > n then n else if Int.tmod n 7 = 0 then 7 else (if 121 > n then n else if Int.tmod n 11 = 0 then 11 else (if 169 > n then n else if Int.tmod n 13 = 0 then 13 else n)))) := by rw [HVi.out]; unfold leastV; rw [if_neg c]
    clear c
    obtain ⟨k1, rfl⟩ : ∃ k1, gk = k1 + 1 := ⟨gk - 1, by have := HI.out; omega⟩
    go_wp2
    go_roundg k1
    case measure => omega
    case rel => exact ⟨1, rfl, ⟨by have := HI.out; omega⟩, ⟨Or.inr (Or.inl ⟨rfl, e1⟩)⟩, HX, HB⟩
  rcases HV' with ⟨rfl, hv⟩ | HV'
  ·skip
   have HVi := Q9a.mk hv
   clear hv
   obtain ⟨hx, -⟩ := Kd.R_celln 0 HX.out (1 : Int) (by omega) (by simp)
   (try rw [show ((1 : Int)).toNat = 1 from rfl] at hx)
   have hx' : wr.cell? ⟨gx, 1, none⟩ = some (.int .i64 3) := hx
   clear hx
   by_cases c : Int.tmod n 3 = 0
   ·have cb : (Int.tmod n 3 == 0) = true := beq_iff_eq.mpr c
    have e1 : r = 3 := by rw [HVi.out]; rw [if_pos c]
    clear c
    subst e1
    go_wp2
    try rw [Exit.noGoto_ret]
    go_ret
    exact ⟨rfl, HB.out⟩
   ·have cb : (Int.tmod n 3 == 0) = false := beq_eq_false_iff_ne.mpr c
    have e1 : r = (if Int.tmod n 5 = 0 then 5 else (if 49 > n then n else if Int.tmod n 7 = 0 then 7 else (if 121 > n then n else if Int.tmod n 11 = 0 then 11 else (if 169 > n then n else if Int.tmod n 13 = 0 then 13 else n)))) := by rw [HVi.out]; rw [if_neg c]
    clear c
    obtain ⟨k1, rfl⟩ : ∃ k1, gk = k1 + 1 := ⟨gk - 1, by have := HI.out; omega⟩
    go_wp2
    go_roundg k1
    case measure => omega
    case rel => exact ⟨2, rfl, ⟨by have := HI.out; omega⟩, ⟨Or.inr (Or.inr (Or.inl ⟨rfl, e1⟩))⟩, HX, HB⟩
  rcases HV' with ⟨rfl, hv⟩ | HV'
  ·skip
   have HVi := Q9a.mk hv
   clear hv
   obtain ⟨hx, -⟩ := Kd.R_celln 0 HX.out (2 : Int) (by omega) (by simp)
   (try rw [show ((2 : Int)).toNat = 2 from rfl] at hx)
   have hx' : wr.cell? ⟨gx, 2, none⟩ = some (.int .i64 5) := hx
   clear hx
   by_cases c : Int.tmod n 5 = 0
   ·have cb : (Int.tmod n 5 == 0) = true := beq_iff_eq.mpr c
    have e1 : r = 5 := by rw [HVi.out]; rw [if_pos c]
    clear c
    subst e1
    go_wp2
    try rw [Exit.noGoto_ret]
    go_ret
    exact ⟨rfl, HB.out⟩
   ·have cb : (Int.tmod n 5 == 0) = false := beq_eq_false_iff_ne.mpr c
    have e1 : r = (if 49 > n then n else if Int.tmod n 7 = 0 then 7 else (if 121 > n then n else if Int.tmod n 11 = 0 then 11 else (if 169 > n then n else if Int.tmod n 13 = 0 then 13 else n))) := by rw [HVi.out]; rw [if_neg c]
    clear c
    obtain ⟨k1, rfl⟩ : ∃ k1, gk = k1 + 1 := ⟨gk - 1, by have := HI.out; omega⟩
    go_wp2
    go_roundg k1
    case measure => omega
    case rel => exact ⟨3, rfl, ⟨by have := HI.out; omega⟩, ⟨Or.inr (Or.inr (Or.inr ⟨rfl, e1⟩))⟩, HX, HB⟩
  obtain ⟨rfl, hv⟩ := HV'
  have HVi := Q9a.mk hv
  clear hv
  go_wp2
  go_step3
  go_wp2
  go_loopg [5, 6] 1 (fun kq v5 v6 w' => v5 = .int .i64 n ∧ v6 = .int .i64 0 ∧ Q9a (Below w.heap.size w w'))
  case atStart => exact ⟨rfl, rfl, HB⟩
  case round =>
   obtain ⟨rfl, rfl, HB⟩ := hrel
   go_wp2_with (first | ((with_reducible refine gate_callee (f := 73) rfl ?_); refine goesL_ (some 25) rfl rfl Try.func73 (by kernel_rfl) rfl #[] rfl (by (try simp only [List.map_toArray, List.map_cons, List.map_nil]); first | done | rfl) ?_; (with_reducible refine (number_wheel.calls _).mono ?_); rintro e wh ⟨rfl, hb⟩; refine ⟨_, rfl, ?_⟩; have n0_ := Q9a.mk (bP HB.out hb); clear HB; have HB := n0_; clear n0_ hb))
   go_loopg [5, 26] 4 (fun kq v5 v26 w' => ∃ i : Nat, v5 = .int .i64 n ∧ v26 = .int .i64 (i : Int) ∧ Q9a (i + kq = 4) ∧ Q9a ((i = 0 ∧ r = (if 49 > n then n else if Int.tmod n 7 = 0 then 7 else (if 121 > n then n else if Int.tmod n 11 = 0 then 11 else (if 169 > n then n else if Int.tmod n 13 = 0 then 13 else n)))) ∨ (i = 1 ∧ r = (if 49 > n then n else if Int.tmod n 7 = 0 then 7 else (if 121 > n then n else if Int.tmod n 11 = 0 then 11 else (if 169 > n then n else if Int.tmod n 13 = 0 then 13 else n)))) ∨ (i = 2 ∧ r = (if 121 > n then n else if Int.tmod n 11 = 0 then 11 else (if 169 > n then n else if Int.tmod n 13 = 0 then 13 else n))) ∨ (i = 3 ∧ r = (if 169 > n then n else if Int.tmod n 13 = 0 then 13 else n)) ∨ (i = 4 ∧ r = n)) ∧ Q9a (Below w.heap.size w w'))
   case atStart => exact ⟨0, rfl, rfl, ⟨by omega⟩, ⟨Or.inl ⟨rfl, HVi.out⟩⟩, HB⟩
   case round =>
    obtain ⟨i, rfl, rfl, HI, HV, HB⟩ := hrel
    rcases HV.out with ⟨rfl, hv⟩ | HV'
    ·have HVi := Q9a.mk hv
     clear hv HV
     obtain ⟨k1, rfl⟩ : ∃ k1, gk = k1 + 1 := ⟨gk - 1, by have := HI.out; omega⟩
     go_wp2
     go_roundg k1
     case measure => omega
     case rel => exact ⟨1, rfl, rfl, ⟨by have := HI.out; omega⟩, ⟨Or.inr (Or.inl ⟨rfl, HVi.out⟩)⟩, HB⟩
    rcases HV' with ⟨rfl, hv⟩ | HV'
    ·have HVi := Q9a.mk hv
     clear hv
     by_cases c : 49 > n
     ·have cb : decide (n < 49) = true := decide_eq_true c
      have e1 : r = n := by rw [HVi.out, if_pos c]
      clear c
      subst e1
      go_wp2
      try rw [Exit.noGoto_ret]
      go_ret
      exact ⟨rfl, HB.out⟩
     ·have cb : decide (n < 49) = false := decide_eq_false c
      have e0 := HVi.out
      rw [if_neg c] at e0
      clear c
      by_cases c : Int.tmod n 7 = 0
      ·have cc : (Int.tmod n 7 == 0) = true := beq_iff_eq.mpr c
       have e1 : r = 7 := by rw [e0, if_pos c]
       clear c e0
       subst e1
       go_wp2
       try rw [Exit.noGoto_ret]
       go_ret
       exact ⟨rfl, HB.out⟩
      ·have cc : (Int.tmod n 7 == 0) = false := beq_eq_false_iff_ne.mpr c
       rw [if_neg c] at e0
       clear c
       obtain ⟨k1, rfl⟩ : ∃ k1, gk = k1 + 1 := ⟨gk - 1, by have := HI.out; omega⟩
       go_wp2
       go_roundg k1
       case measure => omega
       case rel => exact ⟨2, rfl, rfl, ⟨by have := HI.out; omega⟩, ⟨Or.inr (Or.inr (Or.inl ⟨rfl, e0⟩))⟩, HB⟩
    rcases HV' with ⟨rfl, hv⟩ | HV'
    ·have HVi := Q9a.mk hv
     clear hv
     by_cases c : 121 > n
     ·have cb : decide (n < 121) = true := decide_eq_true c
      have e1 : r = n := by rw [HVi.out, if_pos c]
      clear c
      subst e1
      go_wp2
      try rw [Exit.noGoto_ret]
      go_ret
      exact ⟨rfl, HB.out⟩
     ·have cb : decide (n < 121) = false := decide_eq_false c
      have e0 := HVi.out
      rw [if_neg c] at e0
      clear c
      by_cases c : Int.tmod n 11 = 0
      ·have cc : (Int.tmod n 11 == 0) = true := beq_iff_eq.mpr c
       have e1 : r = 11 := by rw [e0, if_pos c]
       clear c e0
       subst e1
       go_wp2
       try rw [Exit.noGoto_ret]
       go_ret
       exact ⟨rfl, HB.out⟩
      ·have cc : (Int.tmod n 11 == 0) = false := beq_eq_false_iff_ne.mpr c
       rw [if_neg c] at e0
       clear c
       obtain ⟨k1, rfl⟩ : ∃ k1, gk = k1 + 1 := ⟨gk - 1, by have := HI.out; omega⟩
       go_wp2
       go_roundg k1
       case measure => omega
       case rel => exact ⟨3, rfl, rfl, ⟨by have := HI.out; omega⟩, ⟨Or.inr (Or.inr (Or.inr (Or.inl ⟨rfl, e0⟩)))⟩, HB⟩
    rcases HV' with ⟨rfl, hv⟩ | HV'
    ·have HVi := Q9a.mk hv
     clear hv
     by_cases c : 169 > n
     ·have cb : decide (n < 169) = true := decide_eq_true c
      have e1 : r = n := by rw [HVi.out, if_pos c]
      clear c
      subst e1
      go_wp2
      try rw [Exit.noGoto_ret]
      go_ret
      exact ⟨rfl, HB.out⟩
     ·have cb : decide (n < 169) = false := decide_eq_false c
      have e0 := HVi.out
      rw [if_neg c] at e0
      clear c
      by_cases c : Int.tmod n 13 = 0
      ·have cc : (Int.tmod n 13 == 0) = true := beq_iff_eq.mpr c
       have e1 : r = 13 := by rw [e0, if_pos c]
       clear c e0
       subst e1
       go_wp2
       try rw [Exit.noGoto_ret]
       go_ret
       exact ⟨rfl, HB.out⟩
      ·have cc : (Int.tmod n 13 == 0) = false := beq_eq_false_iff_ne.mpr c
       rw [if_neg c] at e0
       clear c
       obtain ⟨k1, rfl⟩ : ∃ k1, gk = k1 + 1 := ⟨gk - 1, by have := HI.out; omega⟩
       go_wp2
       go_roundg k1
       case measure => omega
       case rel => exact ⟨4, rfl, rfl, ⟨by have := HI.out; omega⟩, ⟨Or.inr (Or.inr (Or.inr (Or.inr (⟨rfl, e0⟩))))⟩, HB⟩
    obtain ⟨rfl, hv⟩ := HV'
    have HVi := Q9a.mk hv
    clear hv
    have cb : decide (n < 289) = true := decide_eq_true (by have := HN.out; omega)
    have e1 := HVi.out
    subst e1
    go_wp2
    try rw [Exit.noGoto_ret]
    go_ret
    exact ⟨rfl, HB.out⟩
end
end Go.Proofs.Ytbohbfggmnjpdaa.Hand
end
-- Pa2
section
namespace Go.Proofs.Ytbohbfggmnjpdaa.P
noncomputable section
open Go.RowKit Go.Proofs.Ytbohbfggmnjpdaa.Hand Go.Proofs.YtbohbfggmnjpdaaW.PrintWords Go.Proofs.YtbohbfggmnjpdaaW.PrintLast Go.Proofs.YtbohbfggmnjpdaaW.PrintMore
set_option linter.unusedVariables false
set_option linter.unusedSimpArgs false
mutual
def r4Order.j0 : Nat → Bool → Int → Int → List Int → Option (Int)
 | 0, _, _, _, _ => none
 | k + 1, x17, x147000, x147001, x147002 => if x17 = true then (some 0) else (r4Order.l0 k 1 0 x147000 x147001 x147002)
def r4Order.l0 : Nat → Int → Int → Int → Int → List Int → Option (Int)
 | 0, _, _, _, _, _ => none
 | k + 1, x3, x4, x147000, x147001, x147002 => if x4 < x147001 then (if x147000 = 0 then (none) else (if x3 > (wrap64 (Int.tdiv 256 x147000)) then (some 0) else (r4Order.l0 k (wrap64 (x3 * x147000)) (wrap64 (x4 + 1)) x147000 x147001 x147002))) else (some x3)
end
def r4Order.f (k : Nat) (a0_0 : Int) (a0_1 : Int) (l0_2 : List Int) : Option (Int) := if a0_0 < 2 then (r4Order.j0 k true a0_0 a0_1 l0_2) else (if a0_1 < 1 then (r4Order.j0 k true a0_0 a0_1 l0_2) else (r4Order.j0 k (decide (a0_1 > 8)) a0_0 a0_1 l0_2))
set_option maxHeartbeats 8000000 in
set_option maxRecDepth 100000 in
theorem r4Order.calls (k : Nat) (a0_0 : Int) (a0_1 : Int) (A0_2 : Option Addr) (c0_2 : Nat) (l0_2 : List Int) (r : Int) (w : World) (hr0_2 : Kd.C (Kd.int .i64) w A0_2 l0_2.length l0_2) (hc0_2 : l0_2.length ≤ c0_2) (h : r4Order.f k a0_0 a0_1 l0_2 = some r) :
  Calls Try.prog 33 #[.agg #[.int .i64 a0_0, .int .i64 a0_1, .slice A0_2 l0_2.length c0_2]] w fun e w' => e = .returned (.int .i64 r) ∧ Below w.heap.size w w' := by
 have hu24 := Try.underlying24
 have HR0_2 := Q9a.mk hr0_2
 have HC0_2 := Q9a.mk hc0_2
 clear hr0_2 hc0_2
 have HB := Q9a.mk (Below.refl w.heap.size w)
 have H : (if a0_0 < 2 then (r4Order.j0 k true a0_0 a0_1 l0_2) else (if a0_1 < 1 then (r4Order.j0 k true a0_0 a0_1 l0_2) else (r4Order.j0 k (decide (a0_1 > 8)) a0_0 a0_1 l0_2))) = some r := h
 clear h
 have HC2 := Q9a.mk H
 clear H
 go_enter Try.func33, Try.ntmps33
 go_upto_region 1 with (first | ((with_reducible refine gate_dst (N := 1) rfl ?_); refine box_event ?hg (N := 1) ?hd (cs := #[.int .i64 a0_0, .int .i64 a0_1, .slice A0_2 l0_2.length c0_2]) (t := 24) ?hr ?_; (case hd => rfl); (case hg => rfl); (case hr => first | (go_simp; done) | (go_simp; rfl)); intro gb146 hg w3 hbox hb; have n0_ := Q9a.mk (bP (by repeat (first | (with_reducible first | exact HB.out | apply bA | apply bN | apply bD) | exact HB.out)) hb); have n1_ := Q9a.mk (hbox); have n2_ := Q9a.mk ((by rw [hg]; exact (bZ (by repeat (first | (with_reducible first | exact HB.out | apply bA | apply bN | apply bD) | exact HB.out))) : w.heap.size ≤ gb146)); have n3_ := Q9a.mk ((by rw [hg]; exact (bZ (by repeat (first | (with_reducible first | exact HB.out | apply bA | apply bN | apply bD) | exact HB.out))) : w.heap.size ≤ gb146)); clear HB; have HB := n0_; have BK146 := n1_; have GW146 := n2_; have GE146 := n3_; clear n0_ n1_ n2_ n3_; clear hb hbox hg))
 (try simp only [Act.put, sz1, sz2, sz3])
 go_cut [17] (fun v17 wc => ∃ (kq : Nat) (x17_1 : Bool), v17 = .bool x17_1 ∧ Q9a (r4Order.j0 kq x17_1 a0_0 a0_1 l0_2 = some r) ∧ Q9a (kq ≤ k) ∧ Q9a (wc.heap[gb146]? = some (.cells #[.int .i64 a0_0, .int .i64 a0_1, (.slice A0_2 l0_2.length c0_2)] 24 (0, 0))) ∧ Q9a (Below w.heap.size w wc))
 case first =>
  have H := HC2.out
  clear HC2
  by_cases c4 : a0_0 < 2
  ·rw [if_pos c4] at H
   have c4b0 : decide (a0_0 < 2) = true := decide_eq_true c4
   clear c4
   (first | rw [c4b0] | (simp only [i64_w, i32_w]; rw [c4b0]) | skip)
   have H' := Q9a.mk H
   clear H
   have hcz5_0 : w3.cell? ⟨gb146, 0, none⟩ = some (.int .i64 a0_0) := (kC BK146.out 0).trans rfl
   have hcz5_1 : w3.cell? ⟨gb146, 1, none⟩ = some (.int .i64 a0_1) := (kC BK146.out 1).trans rfl
   have hcz5_2 : w3.cell? ⟨gb146, 2, none⟩ = some (.slice A0_2 l0_2.length c0_2) := (kC BK146.out 2).trans rfl
   have hfz5_0 := kF BK146.out 0
   have hfz5_1 := kF BK146.out 1
   have hfz5_2 := kF BK146.out 2
   go_wp2
   go_meet
   case rel => exact ⟨_, (true), (by first | rfl | (simp; done) | (simp [*]; done)), H', ⟨by first | omega | exact Nat.le_refl _⟩, ⟨by (with_reducible repeat (first | refine kN ?_ _ | refine kD ?_ | refine kA ?_ _)); exact BK146.out⟩, ⟨by repeat (first | (with_reducible first | exact HB.out | apply bA | apply bN | apply bD | refine bS ?_ GE146.out) | exact HB.out)⟩⟩
  ·rw [if_neg c4] at H
   have c4b0 : decide (a0_0 < 2) = false := decide_eq_false c4
   clear c4
   (first | rw [c4b0] | (simp only [i64_w, i32_w]; rw [c4b0]) | skip)
   by_cases c6 : a0_1 < 1
   ·rw [if_pos c6] at H
    have c6b0 : decide (a0_1 < 1) = true := decide_eq_true c6
    clear c6
    have H' := Q9a.mk H
    clear H
    have hcz7_0 : w3.cell? ⟨gb146, 0, none⟩ = some (.int .i64 a0_0) := (kC BK146.out 0).trans rfl
    have hcz7_1 : w3.cell? ⟨gb146, 1, none⟩ = some (.int .i64 a0_1) := (kC BK146.out 1).trans rfl
    have hcz7_2 : w3.cell? ⟨gb146, 2, none⟩ = some (.slice A0_2 l0_2.length c0_2) := (kC BK146.out 2).trans rfl
    have hfz7_0 := kF BK146.out 0
    have hfz7_1 := kF BK146.out 1
    have hfz7_2 := kF BK146.out 2
    go_wp2
    go_meet
    case rel => exact ⟨_, (true), (by first | rfl | (simp; done) | (simp [*]; done)), H', ⟨by first | omega | exact Nat.le_refl _⟩, ⟨by (with_reducible repeat (first | refine kN ?_ _ | refine kD ?_ | refine kA ?_ _)); exact BK146.out⟩, ⟨by repeat (first | (with_reducible first | exact HB.out | apply bA | apply bN | apply bD | refine bS ?_ GE146.out) | exact HB.out)⟩⟩
   ·rw [if_neg c6] at H
    have c6b0 : decide (a0_1 < 1) = false := decide_eq_false c6
    clear c6
    have H' := Q9a.mk H
    clear H
    have hcz8_0 : w3.cell? ⟨gb146, 0, none⟩ = some (.int .i64 a0_0) := (kC BK146.out 0).trans rfl
    have hcz8_1 : w3.cell? ⟨gb146, 1, none⟩ = some (.int .i64 a0_1) := (kC BK146.out 1).trans rfl
    have hcz8_2 : w3.cell? ⟨gb146, 2, none⟩ = some (.slice A0_2 l0_2.length c0_2) := (kC BK146.out 2).trans rfl
    have hfz8_0 := kF BK146.out 0
    have hfz8_1 := kF BK146.out 1
    have hfz8_2 := kF BK146.out 2
    go_wp2
    go_meet
    case rel => exact ⟨_, (decide (a0_1 > 8)), (by first | rfl | (simp; done) | (simp [*]; done)), H', ⟨by first | omega | exact Nat.le_refl _⟩, ⟨by (with_reducible repeat (first | refine kN ?_ _ | refine kD ?_ | refine kA ?_ _)); exact BK146.out⟩, ⟨by repeat (first | (with_reducible first | exact HB.out | apply bA | apply bN | apply bD | refine bS ?_ GE146.out) | exact HB.out)⟩⟩
 case rest =>
  clear HC2
  try clear p2
  try clear c3
  try clear c4
  try clear c4b0
  try clear c6
  try clear c6b0
  try clear hcz5_0
  try clear hcz5_1
  try clear hcz5_2
  try clear hcz7_0
  try clear hcz7_1
  try clear hcz7_2
  try clear hcz8_0
  try clear hcz8_1
  try clear hcz8_2
  try clear hfz5_0
  try clear hfz5_1
  try clear hfz5_2
  try clear hfz7_0
  try clear hfz7_1
  try clear hfz7_2
  try clear hfz8_0
  try clear hfz8_1
  try clear hfz8_2
  obtain ⟨kq, x17_1, rfl, HA, HJ1, BK146, HB⟩ := hcut
  cases kq with
  | zero => exact absurd HA.out (by simp [r4Order.j0])
  | succ kj1 =>
   have H := HA.out
   clear HA
   simp only [r4Order.j0] at H
   by_cases c9 : x17_1 = true
   ·subst c9
    have H1 : (some 0) = some r := by rw [if_pos rfl] at H; exact H
    clear H
    have H := H1
    clear H1
    obtain rfl := Option.some.inj H
    go_wp2
    go_ret
    exact ⟨by first | rfl | (simp [eN, eS] <;> rfl) | (simp [*, eN, eS] <;> rfl), by repeat (first | (with_reducible first | exact HB.out | apply bA | apply bN | apply bD | refine bS ?_ GE146.out) | exact HB.out)⟩
   ·replace c9 := Bool.eq_false_iff.mpr c9
    subst c9
    have H1 : (r4Order.l0 kj1 1 0 a0_0 a0_1 l0_2) = some r := by rw [if_neg (show ¬ (false = true) by decide)] at H; exact H
    clear H
    have H := H1
    clear H1
    have H' := Q9a.mk H
    clear H
    go_wp2
    go_loopg [3, 4] kj1 (fun kq v3 v4 w' => ∃ (x3_2 : Int) (x4_2 : Int), v3 = .int .i64 x3_2 ∧ v4 = .int .i64 x4_2 ∧ Q9a (r4Order.l0 kq x3_2 x4_2 a0_0 a0_1 l0_2 = some r) ∧ Q9a (kq ≤ kj1) ∧ Q9a (w'.heap[gb146]? = some (.cells #[.int .i64 a0_0, .int .i64 a0_1, (.slice A0_2 l0_2.length c0_2)] 24 (0, 0))) ∧ Q9a (Below w.heap.size w w'))
    case atStart => exact ⟨(1), (0), (by first | rfl | (simp; done) | (simp [*]; done)), (by first | rfl | (simp; done) | (simp [*]; done)), H', ⟨Nat.le_refl _⟩, ⟨by (with_reducible repeat (first | refine kN ?_ _ | refine kD ?_ | refine kA ?_ _)); exact BK146.out⟩, ⟨by repeat (first | (with_reducible first | exact HB.out | apply bA | apply bN | apply bD | refine bS ?_ GE146.out) | exact HB.out)⟩⟩
    case round =>
     clear H'
     try clear p2
     try clear c3
     try clear c4
     try clear c4b0
     try clear c6
     try clear c6b0
     try clear c9
     try clear hcz5_0
     try clear hcz5_1
     try clear hcz5_2
     try clear hcz7_0
     try clear hcz7_1
     try clear hcz7_2
     try clear hcz8_0
     try clear hcz8_1
     try clear hcz8_2
     try clear hfz5_0
     try clear hfz5_1
     try clear hfz5_2
     try clear hfz7_0
     try clear hfz7_1
     try clear hfz7_2
     try clear hfz8_0
     try clear hfz8_1
     try clear hfz8_2
     try clear p2
     obtain ⟨x3_2, x4_2, rfl, rfl, HA, HK2, BK146, HB⟩ := hrel
     cases gk with
     | zero => exact absurd HA.out (by simp [r4Order.l0])
     | succ k2 =>
      have H := HA.out
      clear HA
      simp only [r4Order.l0] at H
      by_cases c10 : x4_2 < a0_1
      ·rw [if_pos c10] at H
       have c10b0 : decide (x4_2 < a0_1) = true := decide_eq_true c10
       clear c10
       by_cases c11 : a0_0 = 0
       ·rw [if_pos c11] at H
        exact absurd H (by simp)
       ·rw [if_neg c11] at H
        have c11b0 : (a0_0 == 0) = false := beq_eq_false_iff_ne.mpr c11
        have c11b1 : (a0_0 != 0) = true := bne_iff_ne.mpr c11
        by_cases c12 : x3_2 > (wrap64 (Int.tdiv 256 a0_0))
        ·rw [if_pos c12] at H
         have c12b0 : decide ((wrap64 (Int.tdiv 256 a0_0)) < x3_2) = true := decide_eq_true c12
         clear c12
         obtain rfl := Option.some.inj H
         have hcz13_0 : wr.cell? ⟨gb146, 0, none⟩ = some (.int .i64 a0_0) := (kC BK146.out 0).trans rfl
         have hcz13_1 : wr.cell? ⟨gb146, 1, none⟩ = some (.int .i64 a0_1) := (kC BK146.out 1).trans rfl
         have hcz13_2 : wr.cell? ⟨gb146, 2, none⟩ = some (.slice A0_2 l0_2.length c0_2) := (kC BK146.out 2).trans rfl
         have hfz13_0 := kF BK146.out 0
         have hfz13_1 := kF BK146.out 1
         have hfz13_2 := kF BK146.out 2
         go_wp2
         go_ret
         exact ⟨by first | rfl | (simp [eN, eS] <;> rfl) | (simp [*, eN, eS] <;> rfl), by repeat (first | (with_reducible first | exact HB.out | apply bA | apply bN | apply bD | refine bS ?_ GE146.out) | exact HB.out)⟩
        ·rw [if_neg c12] at H
         have c12b0 : decide ((wrap64 (Int.tdiv 256 a0_0)) < x3_2) = false := decide_eq_false c12
         clear c12
         have H' := Q9a.mk H
         clear H
         have hcz14_0 : wr.cell? ⟨gb146, 0, none⟩ = some (.int .i64 a0_0) := (kC BK146.out 0).trans rfl
         have hcz14_1 : wr.cell? ⟨gb146, 1, none⟩ = some (.int .i64 a0_1) := (kC BK146.out 1).trans rfl
         have hcz14_2 : wr.cell? ⟨gb146, 2, none⟩ = some (.slice A0_2 l0_2.length c0_2) := (kC BK146.out 2).trans rfl
         have hfz14_0 := kF BK146.out 0
         have hfz14_1 := kF BK146.out 1
         have hfz14_2 := kF BK146.out 2
         go_wp2
         go_roundg k2
         case measure => have := HJ1.out; have := HK2.out; omega
         case rel => exact ⟨(wrap64 (x3_2 * a0_0)), (wrap64 (x4_2 + 1)), (by first | rfl | (simp; done) | (simp [*]; done)), (by first | rfl | (simp; done) | (simp [*]; done)), H', ⟨by have := HJ1.out; have := HK2.out; omega⟩, ⟨by (with_reducible repeat (first | refine kN ?_ _ | refine kD ?_ | refine kA ?_ _)); exact BK146.out⟩, ⟨by repeat (first | (with_reducible first | exact HB.out | apply bA | apply bN | apply bD | refine bS ?_ GE146.out) | exact HB.out)⟩⟩
      ·rw [if_neg c10] at H
       have c10b0 : decide (x4_2 < a0_1) = false := decide_eq_false c10
       clear c10
       obtain rfl := Option.some.inj H
       have hcz15_0 : wr.cell? ⟨gb146, 0, none⟩ = some (.int .i64 a0_0) := (kC BK146.out 0).trans rfl
       have hcz15_1 : wr.cell? ⟨gb146, 1, none⟩ = some (.int .i64 a0_1) := (kC BK146.out 1).trans rfl
       have hcz15_2 : wr.cell? ⟨gb146, 2, none⟩ = some (.slice A0_2 l0_2.length c0_2) := (kC BK146.out 2).trans rfl
       have hfz15_0 := kF BK146.out 0
       have hfz15_1 := kF BK146.out 1
       have hfz15_2 := kF BK146.out 2
       go_wp2
       go_ret
       exact ⟨by first | rfl | (simp [eN, eS] <;> rfl) | (simp [*, eN, eS] <;> rfl), by repeat (first | (with_reducible first | exact HB.out | apply bA | apply bN | apply bD | refine bS ?_ GE146.out) | exact HB.out)⟩
def r4prime.l0 : Nat → Int → Int → Option (Bool)
 | 0, _, _ => none
 | k + 1, x0, x3 => if x3 < x0 then (if x3 = 0 then (none) else (if (Int.tmod x0 x3) = 0 then (some false) else (r4prime.l0 k x0 (wrap64 (x3 + 1))))) else (some true)
def r4prime.f (k : Nat) (a0 : Int) : Option (Bool) := r4prime.l0 k a0 2
set_option maxHeartbeats 8000000 in
set_option maxRecDepth 100000 in
theorem r4prime.calls (k : Nat) (a0 : Int) (r : Bool) (w : World) (h : r4prime.f k a0 = some r) :
  Calls Try.prog 60 #[.int .i64 a0] w fun e w' => e = .returned (.bool r) ∧ Drawn0 w w' := by
 have H : (r4prime.l0 k a0 2) = some r := h
 clear h
 have H' := Q9a.mk H
 clear H
 go_enter Try.func60, Try.ntmps60
 go_wp2
 go_loopg [3] k (fun kq v3 w' => ∃ (x3_1 : Int), v3 = .int .i64 x3_1 ∧ Q9a (r4prime.l0 kq a0 x3_1 = some r) ∧ Q9a (kq ≤ k) ∧ Drawn0 w w')
 case atStart => exact ⟨(2), (by first | rfl | (simp; done) | (simp [*]; done)), H', ⟨Nat.le_refl _⟩, by repeat (first | exact Drawn0.refl _ | apply Drawn0.step)⟩
 case round =>
  clear H'
  obtain ⟨x3_1, rfl, HA, HK1, ⟨m1, rfl⟩⟩ := hrel
  cases gk with
  | zero => exact absurd HA.out (by simp [r4prime.l0])
  | succ k1 =>
   have H := HA.out
   clear HA
   simp only [r4prime.l0] at H
   by_cases c2 : x3_1 < a0
   ·rw [if_pos c2] at H
    have c2b0 : decide (x3_1 < a0) = true := decide_eq_true c2
    clear c2
    by_cases c3 : x3_1 = 0
    ·rw [if_pos c3] at H
     exact absurd H (by simp)
    ·rw [if_neg c3] at H
     have c3b0 : (x3_1 == 0) = false := beq_eq_false_iff_ne.mpr c3
     have c3b1 : (x3_1 != 0) = true := bne_iff_ne.mpr c3
     by_cases c4 : (Int.tmod a0 x3_1) = 0
     ·rw [if_pos c4] at H
      have c4b0 : ((Int.tmod a0 x3_1) == 0) = true := beq_iff_eq.mpr c4
      have c4b1 : ((Int.tmod a0 x3_1) != 0) = false := bne_eq_false_iff_eq.mpr c4
      clear c4
      obtain rfl := Option.some.inj H
      go_wp2
      go_ret
      exact ⟨by first | rfl | (simp; done) | (simp [*]; done), by repeat (first | exact Drawn0.refl _ | apply Drawn0.step)⟩
     ·rw [if_neg c4] at H
      have c4b0 : ((Int.tmod a0 x3_1) == 0) = false := beq_eq_false_iff_ne.mpr c4
      have c4b1 : ((Int.tmod a0 x3_1) != 0) = true := bne_iff_ne.mpr c4
      have H' := Q9a.mk H
      clear H
      go_wp2
      go_roundg k1
      case measure => have := HK1.out; omega
      case rel => exact ⟨(wrap64 (x3_1 + 1)), (by first | rfl | (simp; done) | (simp [*]; done)), H', ⟨by have := HK1.out; omega⟩, by repeat (first | exact Drawn0.refl _ | apply Drawn0.step)⟩
   ·rw [if_neg c2] at H
    have c2b0 : decide (x3_1 < a0) = false := decide_eq_false c2
    clear c2
    obtain rfl := Option.some.inj H
    go_wp2
    go_ret
    exact ⟨by first | rfl | (simp; done) | (simp [*]; done), by repeat (first | exact Drawn0.refl _ | apply Drawn0.step)⟩
def r4digits.l0 : Nat → Int → Int → Int → List Int → Int → Option (List Int)
 | 0, _, _, _, _, _ => none
 | k + 1, x0, x1, x2, x7, x8 => if x8 < x2 then (if x1 = 0 then (none) else (if 0 ≤ x8 then (if x8 < (x7.length : Int) then (r4digits.l0 k (wrap64 (Int.tdiv x0 x1)) x1 x2 (x7.set (x8 : Int).toNat (Int.tmod x0 x1)) (wrap64 (x8 + 1))) else (none)) else (none))) else (some x7)
def r4digits.f (k : Nat) (a0 : Int) (a1 : Int) (a2 : Int) : Option (List Int) := if 0 ≤ a2 then (if (a2 : Int).toNat ≤ 35184372088832 then (r4digits.l0 k a0 a1 a2 (List.replicate (a2 : Int).toNat 0) 0) else (none)) else (none)
set_option maxHeartbeats 8000000 in
set_option maxRecDepth 100000 in
theorem r4digits.calls (k : Nat) (a0 : Int) (a1 : Int) (a2 : Int) (r : List Int) (w : World) (h : r4digits.f k a0 a1 a2 = some r) :
  Calls Try.prog 64 #[.int .i64 a0, .int .i64 a1, .int .i64 a2] w fun e w' => ∃ v0_ : Value, e = .returned (v0_) ∧ Kd.R (Kd.int .i64) 3 w' w.heap.size (fun _ => True) v0_ r ∧ Below w.heap.size w w' := by
 have HB := Q9a.mk (Below.refl w.heap.size w)
 have H : (if 0 ≤ a2 then (if (a2 : Int).toNat ≤ 35184372088832 then (r4digits.l0 k a0 a1 a2 (List.replicate (a2 : Int).toNat 0) 0) else (none)) else (none)) = some r := h
 clear h
 by_cases c4 : 0 ≤ a2
 ·rw [if_pos c4] at H
  have c4b0 := eq_true c4
  have c4b1 : decide (0 ≤ a2) = true := decide_eq_true c4
  clear c4
  by_cases c5 : (a2 : Int).toNat ≤ 35184372088832
  ·rw [if_pos c5] at H
   have c5b0 := eq_true c5
   have c5b1 : decide ((a2 : Int).toNat ≤ 35184372088832) = true := decide_eq_true c5
   clear c5
   obtain ⟨y147, hy147⟩ : ∃ y_ : List Int, y_ = (List.replicate (a2 : Int).toNat 0) := ⟨_, rfl⟩
   replace H : (r4digits.l0 k a0 a1 a2 y147 0) = some r := by first | (rw [hy147]; with_reducible exact H) | (have H2_ := (Option.bind_some _ _).symm.trans H; rw [hy147]; with_reducible exact H2_) | (have H2_ := (Option.bind_some _ _).symm.trans H; with_reducible exact H2_) | with_reducible exact H | (rw [hy147]; exact H) | exact H
   have Ny147 := Q9a.mk hy147
   clear hy147
   have H' := Q9a.mk H
   clear H
   go_enter Try.func64, Try.ntmps64
   go_wp2_with (first | ((with_reducible refine gate_dst (N := 10) rfl ?_); refine Kd.R_make (Kd.int .i64) _ 3 rfl (N := 10) rfl 22 _ _ rfl a2 rfl rfl Try.underlying22 (.int .i64 0) 8 info3 rfl (by decide) (by omega) 0 (ok := fun _ => True) (okp := fun _ => True) rfl (fun _ hk => hk) trivial (of_decide_eq_true (by first | (with_reducible assumption) | assumption)) (Nat.le_trans (Nat.mul_le_mul_right _ (of_decide_eq_true (by first | (with_reducible assumption) | assumption) : a2.toNat ≤ 35184372088832)) (by omega)) (Below.refl _ _) (Nat.le_refl _) ?_; intro v148 w6 ho7 hb hg_ hnew_; clear hg_ hnew_; (first | rw [← Ny147.out] at ho7 | (simp only [Int.reduceToNat] at ho7; rw [← Ny147.out] at ho7)); have n0_ := Q9a.mk (Kd.R_lower ho7 (bZ (by repeat (first | (with_reducible first | exact HB.out | apply bA | apply bN | apply bD) | exact HB.out)))); have n1_ := Q9a.mk (bP (by repeat (first | (with_reducible first | exact HB.out | apply bA | apply bN | apply bD) | exact HB.out)) hb); clear HB; have HO149 := n0_; have HB := n1_; clear n0_ n1_; clear hb ho7))
   go_loopg [0, 8] k (fun kq v0 v8 w' => ∃ (x0_1 : Int) (x7_1 : List Int) (x8_1 : Int), v0 = .int .i64 x0_1 ∧ v8 = .int .i64 x8_1 ∧ Q9a (r4digits.l0 kq x0_1 a1 a2 x7_1 x8_1 = some r) ∧ Q9a (kq ≤ k) ∧ Q9a (Kd.R (Kd.int .i64) 3 w' w.heap.size (fun _ => True) v148 x7_1) ∧ Q9a (Below w.heap.size w w'))
   case atStart => exact ⟨(a0), (y147), (0), (by first | rfl | (simp; done) | (simp [*]; done)), (by first | rfl | (simp; done) | (simp [*]; done)), H', ⟨Nat.le_refl _⟩, ⟨by (with_reducible repeat (first | apply Kd.R_alloc | apply Kd.R_drewN | apply Kd.R_drew)); exact HO149.out⟩, ⟨by repeat (first | (with_reducible first | exact HB.out | apply bA | apply bN | apply bD) | exact HB.out)⟩⟩
   case round =>
    clear H'
    try clear p2
    try clear c4
    try clear c4b0
    try clear c4b1
    try clear c5
    try clear c5b0
    try clear c5b1
    try clear c6
    obtain ⟨x0_1, x7_1, x8_1, rfl, rfl, HA, HK1, HO_7, HB⟩ := hrel
    cases gk with
    | zero => exact absurd HA.out (by simp [r4digits.l0])
    | succ k1 =>
     have H := HA.out
     clear HA
     simp only [r4digits.l0] at H
     by_cases c8 : x8_1 < a2
     ·rw [if_pos c8] at H
      have c8b0 : decide (x8_1 < a2) = true := decide_eq_true c8
      clear c8
      by_cases c9 : a1 = 0
      ·rw [if_pos c9] at H
       exact absurd H (by simp)
      ·rw [if_neg c9] at H
       have c9b0 : (a1 == 0) = false := beq_eq_false_iff_ne.mpr c9
       have c9b1 : (a1 != 0) = true := bne_iff_ne.mpr c9
       by_cases c10 : 0 ≤ x8_1
       ·rw [if_pos c10] at H
        have c10b0 : decide (0 ≤ x8_1) = true := decide_eq_true c10
        clear c10
        by_cases c11 : x8_1 < (x7_1.length : Int)
        ·rw [if_pos c11] at H
         have c11b0 : decide (x8_1 < (x7_1.length : Int)) = true := decide_eq_true c11
         clear c11
         obtain ⟨y150, hy150⟩ : ∃ y_ : List Int, y_ = (x7_1.set (x8_1 : Int).toNat (Int.tmod x0_1 a1)) := ⟨_, rfl⟩
         replace H : (r4digits.l0 k1 (wrap64 (Int.tdiv x0_1 a1)) a1 a2 y150 (wrap64 (x8_1 + 1))) = some r := by first | (rw [hy150]; with_reducible exact H) | (have H2_ := (Option.bind_some _ _).symm.trans H; rw [hy150]; with_reducible exact H2_) | (have H2_ := (Option.bind_some _ _).symm.trans H; with_reducible exact H2_) | with_reducible exact H | (rw [hy150]; exact H) | exact H
         have Ny150 := Q9a.mk hy150
         clear hy150
         have H' := Q9a.mk H
         clear H
         have p12 : 0 ≤ (x8_1 : Int) := of_decide_eq_true (by first | (with_reducible assumption) | assumption)
         have q12 : (x8_1 : Int) < ((x7_1.length : Int) : Int) := of_decide_eq_true (by first | (with_reducible assumption) | assumption)
         obtain ⟨go12, co12, eo12, gb12, gl12, cl12, HG12⟩ := Kd.R_form HO_7.out (by omega)
         (first | cases eo12 | (injection eo12 with ea_ en_ ec_; (first | subst ea_ | (injection ea_ with ea_; subst ea_)); subst ec_; clear en_))
         have GB12 := Q9a.mk gb12
         have GG12 := Q9a.mk HG12
         clear gb12 gl12 HG12
         obtain ⟨hx12_0, hf12_0⟩ := Kd.R_celln 0 HO_7.out (x8_1 : Int) p12 q12
         replace p12 := eq_true p12
         replace q12 := eq_true q12
         have HP13 := Kd.R_putg HO_7.out (x8_1 : Int) (Int.tmod x0_1 a1)
         go_wp2_with (first | ((with_reducible refine gate_store (t := 3) (p := 21) rfl ?_); refine store_event (t := 3) (p := 21) (v := ?vo_w14) (w1 := (wr.setCell ⟨go12, (x8_1 : Int).toNat, none⟩ (.int .i64 (Int.tmod x0_1 a1)))) ?hg ?ho ?hn ?hr ?_; (case ho => rfl); (case hg => rfl); (case hn => rfl); (case hr => first | (go_simp; done) | (go_simp; rfl)); intro w14 hw; have hg : wr.grownBy w14 (some go12) := (by rw [hw]; exact HP13.2); have hp_ : Kd.R (Kd.int .i64) 3 w14 w.heap.size (fun _ => True) (.slice (some ⟨go12, 0, none⟩) x7_1.length co12) y150 := (by rw [hw, Ny150.out]; exact HP13.1); clear HP13; have n0_ := Q9a.mk (hp_); have n1_ := Q9a.mk ((by rw [hw]; exact bS (HB.out) GB12.out : Below w.heap.size w w14)); clear HO_7; clear HB; have HO_7 := n0_; have HB := n1_; clear n0_ n1_; clear hg hw hp_))
         go_roundg k1
         case measure => have := HK1.out; omega
         case rel => exact ⟨(wrap64 (Int.tdiv x0_1 a1)), (y150), (wrap64 (x8_1 + 1)), (by first | rfl | (simp; done) | (simp [*]; done)), (by first | rfl | (simp; done) | (simp [*]; done)), H', ⟨by have := HK1.out; omega⟩, ⟨by (with_reducible repeat (first | apply Kd.R_alloc | apply Kd.R_drewN | apply Kd.R_drew)); exact HO_7.out⟩, ⟨by repeat (first | (with_reducible first | exact HB.out | apply bA | apply bN | apply bD) | exact HB.out)⟩⟩
        ·rw [if_neg c11] at H
         exact absurd H (by simp)
       ·rw [if_neg c10] at H
        exact absurd H (by simp)
     ·rw [if_neg c8] at H
      have c8b0 : decide (x8_1 < a2) = false := decide_eq_false c8
      clear c8
      obtain rfl := Option.some.inj H
      go_wp2
      go_ret
      exact ⟨_, by first | rfl | (simp [eN, eS] <;> rfl) | (simp [*, eN, eS] <;> rfl), by (with_reducible repeat (first | apply Kd.R_alloc | apply Kd.R_drewN | apply Kd.R_drew)); exact HO_7.out, by repeat (first | (with_reducible first | exact HB.out | apply bA | apply bN | apply bD) | exact HB.out)⟩
  ·rw [if_neg c5] at H
   exact absurd H (by simp)
 ·rw [if_neg c4] at H
  exact absurd H (by simp)
end
end Go.Proofs.Ytbohbfggmnjpdaa.P
end
-- Pa3
section
namespace Go.Proofs.Ytbohbfggmnjpdaa.P
noncomputable section
open Go.RowKit Go.Proofs.Ytbohbfggmnjpdaa.Hand Go.Proofs.YtbohbfggmnjpdaaW.PrintWords Go.Proofs.YtbohbfggmnjpdaaW.PrintLast Go.Proofs.YtbohbfggmnjpdaaW.PrintMore
set_option linter.unusedVariables false
set_option linter.unusedSimpArgs false
mutual
def r4divides.l0 : Nat → List Int → Int → Int → List Int → Int → Option (Bool)
 | 0, _, _, _, _, _ => none
 | k + 1, x0, x2, x7, x8, x9 => if x9 ≥ x7 then (if 0 ≤ x9 then (if x9 < (x8.length : Int) then (r4divides.l1 k x0 x2 x7 x8 x9 (rd x8 x9) 0) else (none)) else (none)) else (r4divides.l2 k x8 0)
def r4divides.l1 : Nat → List Int → Int → Int → List Int → Int → Int → Int → Option (Bool)
 | 0, _, _, _, _, _, _, _ => none
 | k + 1, x0, x2, x7, x8, x9, x10, x11 => if x11 < x7 then (if 0 ≤ (wrap64 ((wrap64 (x9 - x7)) + x11)) then (if (wrap64 ((wrap64 (x9 - x7)) + x11)) < (x8.length : Int) then (if 0 ≤ x11 then (if x11 < (x0.length : Int) then (if x2 = 0 then (none) else (r4divides.l1 k x0 x2 x7 (x8.set ((wrap64 ((wrap64 (x9 - x7)) + x11)) : Int).toNat (Int.tmod (wrap64 ((rd x8 (wrap64 ((wrap64 (x9 - x7)) + x11))) + (wrap64 ((wrap64 (x2 - x10)) * (rd x0 x11))))) x2)) x9 x10 (wrap64 (x11 + 1)))) else (none)) else (none)) else (none)) else (none)) else (if 0 ≤ x9 then (if x9 < (x8.length : Int) then (r4divides.l0 k x0 x2 x7 (x8.set (x9 : Int).toNat 0) (wrap64 (x9 - 1))) else (none)) else (none))
def r4divides.l2 : Nat → List Int → Int → Option (Bool)
 | 0, _, _ => none
 | k + 1, x8, x12 => if x12 < (x8.length : Int) then (if 0 ≤ x12 then (if (rd x8 x12) = 0 then (r4divides.l2 k x8 (wrap64 (x12 + 1))) else (some false)) else (none)) else (some true)
end
def r4divides.f (k : Nat) (l0 : List Int) (l1 : List Int) (a2 : Int) : Option (Bool) := (some (([] : List Int) : List Int)).bind fun y151 => (if y151.length + l1.length < 17592186044416 then ((some (y151 ++ l1 : List Int)).bind fun y154 => (if y154.length < 17592186044416 then ((some (y154 ++ [1] : List Int)).bind fun y157 => (r4divides.l0 k l0 a2 (l0.length : Int) y157 (wrap64 ((y157.length : Int) - 1)))) else (none))) else (none))
def r4divides.T11 : Bool × List (List Nat × List Nat) := (true, [([], []), ([], []), ([], []), ([1, 2], [1, 2]), ([], []), ([3, 4], [3, 4]), ([], []), ([], []), ([], []), ([7, 8], [7, 8]), ([], []), ([9, 10], [9, 10]), ([6, 11], [6, 11]), ([12], [12]), ([], []), ([], []), ([14, 15], [14, 15]), ([], []), ([], []), ([17, 18], [17, 18]), ([19], [19]), ([16, 20], [16, 20]), ([13, 21], [13, 21]), ([], []), ([22, 23], [22, 23]), ([0, 5, 0, 1, 2, 3, 4, 5, 6, 7, 8, 9, 10, 11, 12, 13, 14, 15, 16, 17, 18, 19, 20, 21, 22, 23, 24], [0, 5]), ([25, 24, 0, 1, 2, 3, 4, 5, 6, 7, 8, 9, 10, 11, 12, 13, 14, 15, 16, 17, 18, 19, 20, 21, 22, 23, 24], [24, 25])])
def r4divides.B11 : List Nat := [0, 0, 0, 6, 0, 30, 0, 0, 0, 384, 0, 1920, 4032, 8128, 0, 0, 49152, 0, 0, 393216, 917504, 2080768, 4194240, 0, 16777152, 33554431, 67108863]
theorem r4divides.tab11 : rtab .any (opsOf Try.f68 11) = r4divides.T11 := by kernel_rfl
theorem r4divides.bits11 : waitsOk r4divides.T11.2 r4divides.B11 = true := by kernel_rfl
set_option maxHeartbeats 8000000 in
set_option maxRecDepth 100000 in
theorem r4divides.calls (k : Nat) (A0 : Option Addr) (c0 : Nat) (l0 : List Int) (A1 : Option Addr) (c1 : Nat) (l1 : List Int) (a2 : Int) (r : Bool) (w : World) (hr0 : Kd.C (Kd.int .i64) w A0 l0.length l0) (hc0 : l0.length ≤ c0) (hr1 : Kd.C (Kd.int .i64) w A1 l1.length l1) (hc1 : l1.length ≤ c1) (h : r4divides.f k l0 l1 a2 = some r) :
  Calls Try.prog 68 #[.slice A0 l0.length c0, .slice A1 l1.length c1, .int .i64 a2] w fun e w' => e = .returned (.bool r) ∧ Below w.heap.size w w' := by
 have HR0 := Q9a.mk hr0
 have HC0 := Q9a.mk hc0
 clear hr0 hc0
 have HR1 := Q9a.mk hr1
 have HC1 := Q9a.mk hc1
 clear hr1 hc1
 have HB := Q9a.mk (Below.refl w.heap.size w)
 have H : ((some (([] : List Int) : List Int)).bind fun y151 => (if y151.length + l1.length < 17592186044416 then ((some (y151 ++ l1 : List Int)).bind fun y154 => (if y154.length < 17592186044416 then ((some (y154 ++ [1] : List Int)).bind fun y157 => (r4divides.l0 k l0 a2 (l0.length : Int) y157 (wrap64 ((y157.length : Int) - 1)))) else (none))) else (none))) = some r := h
 clear h
 obtain ⟨y151, hy151⟩ : ∃ y_ : List Int, y_ = (([] : List Int)) := ⟨_, rfl⟩
 replace H : (if y151.length + l1.length < 17592186044416 then ((some (y151 ++ l1 : List Int)).bind fun y154 => (if y154.length < 17592186044416 then ((some (y154 ++ [1] : List Int)).bind fun y157 => (r4divides.l0 k l0 a2 (l0.length : Int) y157 (wrap64 ((y157.length : Int) - 1)))) else (none))) else (none)) = some r := by first | (rw [hy151]; with_reducible exact H) | (have H2_ := (Option.bind_some _ _).symm.trans H; rw [hy151]; with_reducible exact H2_) | (have H2_ := (Option.bind_some _ _).symm.trans H; with_reducible exact H2_) | with_reducible exact H | (rw [hy151]; exact H) | exact H
 have Ny151 := Q9a.mk hy151
 clear hy151
 by_cases c4 : y151.length + l1.length < 17592186044416
 ·rw [if_pos c4] at H
  have LMc4 := Q9a.mk c4
  clear c4
  obtain ⟨y154, hy154⟩ : ∃ y_ : List Int, y_ = (y151 ++ l1) := ⟨_, rfl⟩
  replace H : (if y154.length < 17592186044416 then ((some (y154 ++ [1] : List Int)).bind fun y157 => (r4divides.l0 k l0 a2 (l0.length : Int) y157 (wrap64 ((y157.length : Int) - 1)))) else (none)) = some r := by first | (rw [hy154]; with_reducible exact H) | (have H2_ := (Option.bind_some _ _).symm.trans H; rw [hy154]; with_reducible exact H2_) | (have H2_ := (Option.bind_some _ _).symm.trans H; with_reducible exact H2_) | with_reducible exact H | (rw [hy154]; exact H) | exact H
  have Ny154 := Q9a.mk hy154
  clear hy154
  by_cases c5 : y154.length < 17592186044416
  ·rw [if_pos c5] at H
   have LMc5 := Q9a.mk c5
   clear c5
   obtain ⟨y157, hy157⟩ : ∃ y_ : List Int, y_ = (y154 ++ [1]) := ⟨_, rfl⟩
   replace H : (r4divides.l0 k l0 a2 (l0.length : Int) y157 (wrap64 ((y157.length : Int) - 1))) = some r := by first | (rw [hy157]; with_reducible exact H) | (have H2_ := (Option.bind_some _ _).symm.trans H; rw [hy157]; with_reducible exact H2_) | (have H2_ := (Option.bind_some _ _).symm.trans H; with_reducible exact H2_) | with_reducible exact H | (rw [hy157]; exact H) | exact H
   have Ny157 := Q9a.mk hy157
   clear hy157
   have H' := Q9a.mk H
   clear H
   go_enter Try.func68, Try.ntmps68
   go_wp2_with (first | ((with_reducible refine gate_dst (N := 15) rfl ?_); refine Kd.R_lit (Kd.int .i64) _ 3 ?hg (N := 15) ?hd (xs := ([] : List Int)) (inner := []) (ok := fun _ => True) (okp := fun _ => True) ?hr ?hp (fun _ hk => hk) trivial (Below.refl _ _) (Nat.le_refl _) (by simp) ?_; (case hd => rfl); (case hg => rfl); (case hr => first | (go_simp; done) | (go_simp; rfl)); (case hp => exact (Reps.none _ _)); intro v152 w6 ho7 hb hg_ hnew_; clear hg_ hnew_; (first | rw [← Ny151.out] at ho7 | (simp only [Int.reduceToNat] at ho7; rw [← Ny151.out] at ho7)); have n0_ := Q9a.mk (Kd.R_lower ho7 (bZ (by repeat (first | (with_reducible first | exact HB.out | apply bA | apply bN | apply bD) | exact HB.out)))); have n1_ := Q9a.mk (bP (by repeat (first | (with_reducible first | exact HB.out | apply bA | apply bN | apply bD) | exact HB.out)) hb); clear HB; have HO153 := n0_; have HB := n1_; clear n0_ n1_; clear hb ho7) | ((with_reducible refine gate_builtin (b := .append) (xs := #[.tmp 15, .tmp 16]) rfl ?_); at_builtin; refine Kd.R_append_rows (Kd.int .i64) (w0 := w) w.heap.size rfl (.tmp 15) (.tmp 16) 22 3 (.int .i64 0) 8 rfl Try.underlying22 info3 rfl (by decide) (by omega) v152 y151 l1 _ _ _ (fun _ => True) (fun _ => False) rfl rfl ?aO ?aR (fun _ _ h => h) (fun _ h => h.elim) ?aF ?aB ?aS ?aL ?_; (case aR => repeat (first | exact (Kd.C_below HR1.out HB.out) | (with_reducible refine Kd.C_alloc ?_ _) | (with_reducible refine Kd.C_drewN ?_ _) | (with_reducible refine Kd.C_drew ?_))); (case aB => exact (by repeat (first | (with_reducible first | exact HB.out | apply bA | apply bN | apply bD) | exact HB.out))); (case aF => exact (fun _ _ => trivial)); (case aO => exact (by (with_reducible repeat (first | apply Kd.R_alloc | apply Kd.R_drewN | apply Kd.R_drew)); exact HO153.out)); (case aS => exact (bZ (by repeat (first | (with_reducible first | exact HB.out | apply bA | apply bN | apply bD) | exact HB.out)))); (case aL => have := LMc4.out; omega); intro v155 w8 ho hb hg hat; rw [← Ny154.out] at ho; have n0_ := Q9a.mk (hb); have n1_ := Q9a.mk (ho); clear HB; clear HO153; have HB := n0_; have HO156 := n1_; clear n0_ n1_; clear ho hb hg hat) | ((with_reducible refine gate_builtin (b := .append) (xs := #[.tmp 18, .tmp 19]) rfl ?_); at_builtin; refine Kd.R_append (Kd.int .i64) (w0 := w) w.heap.size rfl (.tmp 18) (.tmp 19) 22 3 (.int .i64 0) 8 rfl Try.underlying22 info3 rfl (by decide) (by omega) v155 y154 1 [.int .i64 1] (fun _ => True) (fun _ => False) rfl rfl ?aP (fun _ hk => hk.elim) ?aF ?aO ?aB ?aS ?aL ?_; (case aP => exact rfl); (case aB => exact (by repeat (first | (with_reducible first | exact HB.out | apply bA | apply bN | apply bD) | exact HB.out))); (case aF => exact (fun _ _ => trivial)); (case aO => exact (by (with_reducible repeat (first | apply Kd.R_alloc | apply Kd.R_drewN | apply Kd.R_drew)); exact HO156.out)); (case aS => exact (bZ (by repeat (first | (with_reducible first | exact HB.out | apply bA | apply bN | apply bD) | exact HB.out)))); (case aL => have := LMc5.out; omega); intro v158 w9 ho hb hg hat; rw [← Ny157.out] at ho; have n0_ := Q9a.mk (hb); have n1_ := Q9a.mk (ho); clear HB; clear HO156; have HB := n0_; have HO159 := n1_; clear n0_ n1_; clear ho hb hg hat; obtain ⟨Ao10, co10, eo10⟩ := Kd.R_slice HO159.out; subst eo10))
   go_loopg [9] k (fun kq v9 w' => ∃ (x8_1 : List Int) (x9_1 : Int), v9 = .int .i64 x9_1 ∧ Q9a (r4divides.l0 kq l0 a2 (l0.length : Int) x8_1 x9_1 = some r) ∧ Q9a (kq ≤ k) ∧ Q9a (Kd.R (Kd.int .i64) 3 w' w.heap.size (fun _ => True) (.slice Ao10 y157.length co10) x8_1) ∧ Q9a (Below w.heap.size w w'))
   case atStart => exact ⟨(y157), (wrap64 ((y157.length : Int) - 1)), (by first | rfl | (simp; done) | (simp [*]; done)), H', ⟨Nat.le_refl _⟩, ⟨by (with_reducible repeat (first | apply Kd.R_alloc | apply Kd.R_drewN | apply Kd.R_drew)); exact HO159.out⟩, ⟨by repeat (first | (with_reducible first | exact HB.out | apply bA | apply bN | apply bD) | exact HB.out)⟩⟩
   case round =>
    clear H'
    try clear c1
    try clear p2
    try clear c4
    try clear c5
    try clear c6
    try clear p6
    obtain ⟨x8_1, x9_1, rfl, HA, HK1, HO_8, HB⟩ := hrel
    have hl8_1 := (Kd.R_reads' HO_8.out).1
    rw [hl8_1] at HO_8
    (try simp only [hl8_1])
    cases gk with
    | zero => exact absurd HA.out (by simp [r4divides.l0])
    | succ k1 =>
     have H := HA.out
     clear HA
     simp only [r4divides.l0] at H
     by_cases c11 : x9_1 ≥ (l0.length : Int)
     ·rw [if_pos c11] at H
      have c11b0 : decide ((l0.length : Int) ≤ x9_1) = true := decide_eq_true c11
      (try (have c11b0h := c11b0; rw [hl8_1] at c11b0h))
      clear c11
      by_cases c12 : 0 ≤ x9_1
      ·rw [if_pos c12] at H
       have c12b0 : decide (0 ≤ x9_1) = true := decide_eq_true c12
       clear c12
       by_cases c13 : x9_1 < (x8_1.length : Int)
       ·rw [if_pos c13] at H
        have c13b0 : decide (x9_1 < (x8_1.length : Int)) = true := decide_eq_true c13
        (try (have c13b0h := c13b0; rw [hl8_1] at c13b0h))
        clear c13
        have H' := Q9a.mk H
        clear H
        have p160 : 0 ≤ (x9_1 : Int) := of_decide_eq_true (by first | (with_reducible assumption) | assumption)
        have q160 : x9_1 < (x8_1.length : Int) := of_decide_eq_true (by first | (with_reducible assumption) | assumption)
        obtain ⟨ad160, e160, hx160_0⟩ := Kd.at_int (Kd.R_reads' HO_8.out).2.2 x9_1 p160 q160
        cases e160
        obtain ⟨go160, co160, eo160, gb160, gl160, cl160, HGf160⟩ := Kd.R_form HO_8.out (by omega)
        (injection eo160 with ea_ en_ ec_; injection ea_ with ea_; subst ea_; subst ec_; clear en_)
        have GB160 := Q9a.mk gb160
        have GG160 := Q9a.mk HGf160
        clear gb160 gl160 HGf160
        (first | simp only [add_plain] at hx160_0 | skip)
        replace p160 := eq_true p160
        replace q160 := eq_true q160
        go_wp2
        go_loopg [11] k1 (fun kq v11 w' => ∃ (x8_2 : List Int) (x11_2 : Int), v11 = .int .i64 x11_2 ∧ Q9a (r4divides.l1 kq l0 a2 (l0.length : Int) x8_2 x9_1 (rd x8_1 x9_1) x11_2 = some r) ∧ Q9a (kq ≤ k1) ∧ Q9a (Kd.R (Kd.int .i64) 3 w' w.heap.size (fun _ => True) (.slice (some ⟨go160, 0, none⟩) x8_1.length co10) x8_2) ∧ Q9a (Below w.heap.size w w'))
        case atStart => exact ⟨(x8_1), (0), (by first | rfl | (simp; done) | (simp [*]; done)), H', ⟨Nat.le_refl _⟩, ⟨by (try simp only [hl8_1]); (with_reducible repeat (first | apply Kd.R_alloc | apply Kd.R_drewN | apply Kd.R_drew)); exact HO_8.out⟩, ⟨by repeat (first | (with_reducible first | exact HB.out | apply bA | apply bN | apply bD) | exact HB.out)⟩⟩
        case round =>
         clear H'
         try clear c1
         try clear p1
         try clear q1
         try clear hx1
         try clear p2
         try clear c4
         try clear c5
         try clear c6
         try clear p6
         try clear c11
         try clear c11b0
         try clear c12
         try clear c12b0
         try clear c13
         try clear c13b0
         try clear hx160_0
         try clear p160
         try clear p2
         try clear p6
         try clear q160
         obtain ⟨x8_2, x11_2, rfl, HA, HK2, HO_8, HB⟩ := hrel
         have hl8_2 := (Kd.R_reads' HO_8.out).1
         rw [hl8_2] at HO_8
         (try simp only [hl8_2])
         cases gk with
         | zero => exact absurd HA.out (by simp [r4divides.l1])
         | succ k2 =>
          have H := HA.out
          clear HA
          simp only [r4divides.l1] at H
          by_cases c14 : x11_2 < (l0.length : Int)
          ·rw [if_pos c14] at H
           have c14b0 : decide (x11_2 < (l0.length : Int)) = true := decide_eq_true c14
           (try (have c14b0h := c14b0; rw [hl8_1] at c14b0h))
           (try (have c14b0h := c14b0; rw [hl8_2] at c14b0h))
           clear c14
           obtain ⟨ji15, hji15⟩ : ∃ j_ : Int, (wrap64 ((wrap64 (x9_1 - (l0.length : Int))) + x11_2)) = j_ := ⟨_, rfl⟩
           replace H : (if 0 ≤ (ji15) then (if (ji15) < (x8_2.length : Int) then (if 0 ≤ x11_2 then (if x11_2 < (l0.length : Int) then (if a2 = 0 then (none) else (r4divides.l1 k2 l0 a2 (l0.length : Int) (x8_2.set ((ji15) : Int).toNat (Int.tmod (wrap64 ((rd x8_2 (ji15)) + (wrap64 ((wrap64 (a2 - (rd x8_1 x9_1))) * (rd l0 x11_2))))) a2)) x9_1 (rd x8_1 x9_1) (wrap64 (x11_2 + 1)))) else (none)) else (none)) else (none)) else (none)) = some r := by first | (rw [hji15] at H; exact H) | (simp only [hji15] at H ⊢; exact H)
           have hji15w : (IntKind.i64.wrap ((wrap64 (x9_1 - (l0.length : Int))) + x11_2)) = ji15 := (i64_w _).trans hji15
           by_cases c16 : 0 ≤ (ji15)
           ·rw [if_pos c16] at H
            have c16b0 : decide (0 ≤ (ji15)) = true := decide_eq_true c16
            clear c16
            by_cases c17 : (ji15) < (x8_2.length : Int)
            ·rw [if_pos c17] at H
             have c17b0 : decide ((ji15) < (x8_2.length : Int)) = true := decide_eq_true c17
             (try (have c17b0h := c17b0; rw [hl8_1] at c17b0h))
             (try (have c17b0h := c17b0; rw [hl8_2] at c17b0h))
             clear c17
             by_cases c18 : 0 ≤ x11_2
             ·rw [if_pos c18] at H
              have c18b0 : decide (0 ≤ x11_2) = true := decide_eq_true c18
              clear c18
              by_cases c19 : x11_2 < (l0.length : Int)
              ·rw [if_pos c19] at H
               have c19b0 : decide (x11_2 < (l0.length : Int)) = true := decide_eq_true c19
               (try (have c19b0h := c19b0; rw [hl8_1] at c19b0h))
               (try (have c19b0h := c19b0; rw [hl8_2] at c19b0h))
               clear c19
               by_cases c20 : a2 = 0
               ·rw [if_pos c20] at H
                exact absurd H (by simp)
               ·rw [if_neg c20] at H
                have c20b0 : (a2 == 0) = false := beq_eq_false_iff_ne.mpr c20
                have c20b1 : (a2 != 0) = true := bne_iff_ne.mpr c20
                obtain ⟨y163, hy163⟩ : ∃ y_ : List Int, y_ = (x8_2.set ((ji15) : Int).toNat (Int.tmod (wrap64 ((rd x8_2 (ji15)) + (wrap64 ((wrap64 (a2 - (rd x8_1 x9_1))) * (rd l0 x11_2))))) a2)) := ⟨_, rfl⟩
                replace H : (r4divides.l1 k2 l0 a2 (l0.length : Int) y163 x9_1 (rd x8_1 x9_1) (wrap64 (x11_2 + 1))) = some r := by first | (rw [hy163]; with_reducible exact H) | (have H2_ := (Option.bind_some _ _).symm.trans H; rw [hy163]; with_reducible exact H2_) | (have H2_ := (Option.bind_some _ _).symm.trans H; with_reducible exact H2_) | with_reducible exact H | (rw [hy163]; exact H) | exact H
                have Ny163 := Q9a.mk hy163
                clear hy163
                have H' := Q9a.mk H
                clear H
                try go_wp2
                have n0_ := Q9a.mk (Kd.R_drew HO_8.out)
                have n1_ := Q9a.mk (bD HB.out)
                clear HO_8
                clear HB
                have HO_8 := n0_
                have HB := n1_
                clear n0_ n1_
                have p161 : 0 ≤ ((ji15) : Int) := of_decide_eq_true (by first | (with_reducible assumption) | assumption)
                have q161 : (ji15) < (x8_2.length : Int) := of_decide_eq_true (by first | (with_reducible assumption) | assumption)
                obtain ⟨ad161, e161, hx161_0⟩ := Kd.at_int (Kd.R_reads' HO_8.out).2.2 (ji15) p161 q161
                obtain rfl : (⟨go160, 0, none⟩ : Addr) = ad161 := (by injection e161)
                (first | simp only [add_plain] at hx161_0 | simp only [add_at] at hx161_0 | simp only [Addr.add, Nat.zero_add] at hx161_0 | skip)
                replace p161 := eq_true p161
                replace q161 := eq_true q161
                have p162 : 0 ≤ (x11_2 : Int) := of_decide_eq_true (by first | (with_reducible assumption) | assumption)
                have q162 : x11_2 < (l0.length : Int) := of_decide_eq_true (by first | (with_reducible assumption) | assumption)
                obtain ⟨ad162, e162, hx162_0⟩ := Kd.at_int HR0.out x11_2 p162 q162
                have hw162_0 := hx162_0
                cases e162
                replace hx162_0 := (HB.out.cell (World.block_lt_of_cell? w _ hx162_0)).trans hx162_0
                replace p162 := eq_true p162
                replace q162 := eq_true q162
                have p21 : 0 ≤ ((ji15) : Int) := of_decide_eq_true (by first | (with_reducible assumption) | assumption)
                have q21 : ((ji15) : Int) < ((x8_2.length : Int) : Int) := of_decide_eq_true (by first | (with_reducible assumption) | assumption)
                obtain ⟨hx21_0, hf21_0⟩ := Kd.R_celln 0 HO_8.out ((ji15) : Int) p21 q21
                replace p21 := eq_true p21
                replace q21 := eq_true q21
                have HP23 := Kd.R_putn HO_8.out ((ji15) : Int) (Int.tmod (wrap64 ((rd x8_2 (ji15)) + (wrap64 ((wrap64 (a2 - (rd x8_1 x9_1))) * (rd l0 x11_2))))) a2)
                rw [← Ny163.out] at HP23
                have HQ23 := Q9a.mk HP23
                clear HP23
                refine start_ (n := 27) (S := fun w' => w'.cell? ⟨go160, ((ji15)).toNat, none⟩ = some (.int .i64 (rd x8_2 (ji15))) ∧ w'.cell? (ad162.add (x11_2).toNat) = some (.int .i64 (rd l0 x11_2))) (ds := [26]) #[false, false, false, false, false, false, false, false, false, false, false, false, false, false, false, false, false, false, false, false, false, false, false, false, false, false, false] (by kernel_rfl) rfl rfl ⟨hx161_0, ((HB.out.cell (World.block_lt_of_cell? w _ hw162_0)).trans hw162_0)⟩ (fun hHeld => ?_); refine with_tabW r4divides.tab11 r4divides.bits11 (fun HT_ HW_ => ?_)
                generalize wr.drew = w22 at HO_8 HB HQ23 hf21_0 hx161_0 hx162_0 hx21_0 hHeld ⊢
                refine pure_ (i := 0) (N := some 38) (v := ?_) (a' := ?_) #[true, false, false, false, false, false, false, false, false, false, false, false, false, false, false, false, false, false, false, false, false, false, false, false, false, false, false] rfl rfl (any_of HT_.out (by kernel_rfl)) (fun _ _ _ h => h) (Or.inl ⟨by rfl, ?_⟩) ?_ ?_
                rotate_left
                ·intro w'
                 go_simp
                 with_reducible rfl
                rotate_left
                ·simp only [Act.put, sz1, sz2, sz3, i64_w, i32_w]
                 rfl
                refine pure_ (i := 1) (N := some 39) (v := ?_) (a' := ?_) #[true, true, false, false, false, false, false, false, false, false, false, false, false, false, false, false, false, false, false, false, false, false, false, false, false, false, false] rfl rfl (any_of HT_.out (by kernel_rfl)) (fun _ _ _ h => h) (Or.inl ⟨by rfl, ?_⟩) ?_ ?_
                rotate_left
                ·intro w'
                 go_simp
                 with_reducible rfl
                rotate_left
                ·simp only [Act.put, sz1, sz2, sz3, i64_w, i32_w]
                 rfl
                refine pure_ (i := 2) (N := some 40) (v := ?_) (a' := ?_) #[true, true, true, false, false, false, false, false, false, false, false, false, false, false, false, false, false, false, false, false, false, false, false, false, false, false, false] rfl rfl (any_of HT_.out (by kernel_rfl)) (fun _ _ _ h => h) (Or.inl ⟨by rfl, ?_⟩) ?_ ?_
                rotate_left
                ·intro w'
                 go_simp
                 with_reducible rfl
                rotate_left
                ·simp only [Act.put, sz1, sz2, sz3, i64_w, i32_w]
                 rfl
                refine pure_ (i := 3) (N := some 41) (v := ?_) (a' := ?_) #[true, true, true, true, false, false, false, false, false, false, false, false, false, false, false, false, false, false, false, false, false, false, false, false, false, false, false] rfl rfl (any_of HT_.out (by kernel_rfl)) (fun _ _ _ h => h) (Or.inl ⟨by rfl, ?_⟩) ?_ ?_
                rotate_left
                ·intro w'
                 go_simp
                 with_reducible rfl
                rotate_left
                ·simp only [Act.put, sz1, sz2, sz3, i64_w, i32_w]
                 rfl
                refine pure_ (i := 4) (N := some 42) (v := ?_) (a' := ?_) #[true, true, true, true, true, false, false, false, false, false, false, false, false, false, false, false, false, false, false, false, false, false, false, false, false, false, false] rfl rfl (any_of HT_.out (by kernel_rfl)) (fun _ _ _ h => h) (Or.inl ⟨by rfl, ?_⟩) ?_ ?_
                rotate_left
                ·intro w'
                 go_simp
                 with_reducible rfl
                rotate_left
                ·simp only [Act.put, sz1, sz2, sz3, i64_w, i32_w]
                 rfl
                refine pure_ (i := 5) (N := some 43) (v := ?_) (a' := ?_) #[true, true, true, true, true, true, false, false, false, false, false, false, false, false, false, false, false, false, false, false, false, false, false, false, false, false, false] rfl rfl (any_of HT_.out (by kernel_rfl)) (fun _ _ _ h => h) (Or.inl ⟨by rfl, ?_⟩) ?_ ?_
                rotate_left
                ·intro w'
                 go_simp
                 with_reducible rfl
                rotate_left
                ·simp only [Act.put, sz1, sz2, sz3, i64_w, i32_w]
                 rfl
                refine pure_ (i := 6) (N := some 44) (v := ?_) (a' := ?_) #[true, true, true, true, true, true, true, false, false, false, false, false, false, false, false, false, false, false, false, false, false, false, false, false, false, false, false] rfl rfl (any_of HT_.out (by kernel_rfl)) (fun _ _ _ h => h) (Or.inl ⟨by rfl, ?_⟩) ?_ ?_
                rotate_left
                ·intro w'
                 go_simp
                 with_reducible rfl
                rotate_left
                ·simp only [Act.put, sz1, sz2, sz3, i64_w, i32_w]
                 rfl
                refine pure_ (i := 7) (N := some 45) (v := ?_) (a' := ?_) #[true, true, true, true, true, true, true, true, false, false, false, false, false, false, false, false, false, false, false, false, false, false, false, false, false, false, false] rfl rfl (any_of HT_.out (by kernel_rfl)) (fun _ _ _ h => h) (Or.inl ⟨by rfl, ?_⟩) ?_ ?_
                rotate_left
                ·intro w'
                 go_simp
                 with_reducible rfl
                rotate_left
                ·simp only [Act.put, sz1, sz2, sz3, i64_w, i32_w]
                 rfl
                refine pure_ (i := 8) (N := some 46) (v := ?_) (a' := ?_) #[true, true, true, true, true, true, true, true, true, false, false, false, false, false, false, false, false, false, false, false, false, false, false, false, false, false, false] rfl rfl (any_of HT_.out (by kernel_rfl)) (fun _ _ _ h => h) (Or.inl ⟨by rfl, ?_⟩) ?_ ?_
                rotate_left
                ·intro w'
                 go_simp
                 with_reducible rfl
                rotate_left
                ·simp only [Act.put, sz1, sz2, sz3, i64_w, i32_w]
                 rfl
                refine pure_ (i := 9) (N := some 47) (v := ?_) (a' := ?_) #[true, true, true, true, true, true, true, true, true, true, false, false, false, false, false, false, false, false, false, false, false, false, false, false, false, false, false] rfl rfl (any_of HT_.out (by kernel_rfl)) (fun _ _ _ h => h) (Or.inl ⟨by rfl, ?_⟩) ?_ ?_
                rotate_left
                ·intro w'
                 go_simp
                 with_reducible rfl
                rotate_left
                ·simp only [Act.put, sz1, sz2, sz3, i64_w, i32_w]
                 rfl
                refine pure_ (i := 10) (N := some 48) (v := ?_) (a' := ?_) #[true, true, true, true, true, true, true, true, true, true, true, false, false, false, false, false, false, false, false, false, false, false, false, false, false, false, false] rfl rfl (any_of HT_.out (by kernel_rfl)) (fun _ _ _ h => h) (Or.inl ⟨by rfl, ?_⟩) ?_ ?_
                rotate_left
                ·intro w'
                 go_simp
                 with_reducible rfl
                rotate_left
                ·simp only [Act.put, sz1, sz2, sz3, i64_w, i32_w]
                 rfl
                refine pure_ (i := 11) (N := some 49) (v := ?_) (a' := ?_) #[true, true, true, true, true, true, true, true, true, true, true, true, false, false, false, false, false, false, false, false, false, false, false, false, false, false, false] rfl rfl (any_of HT_.out (by kernel_rfl)) (fun _ _ _ h => h) (Or.inl ⟨by rfl, ?_⟩) ?_ ?_
                rotate_left
                ·intro w'
                 go_simp
                 with_reducible rfl
                rotate_left
                ·simp only [Act.put, sz1, sz2, sz3, i64_w, i32_w]
                 rfl
                refine pure_ (i := 12) (N := some 50) (v := ?_) (a' := ?_) #[true, true, true, true, true, true, true, true, true, true, true, true, true, false, false, false, false, false, false, false, false, false, false, false, false, false, false] rfl rfl (any_of HT_.out (by kernel_rfl)) (fun _ _ _ h => h) (Or.inl ⟨by rfl, ?_⟩) ?_ ?_
                rotate_left
                ·intro w'
                 go_simp
                 with_reducible rfl
                rotate_left
                ·simp only [Act.put, sz1, sz2, sz3, i64_w, i32_w]
                 rfl
                refine pure_ (i := 14) (N := some 52) (v := ?_) (a' := ?_) #[true, true, true, true, true, true, true, true, true, true, true, true, true, false, true, false, false, false, false, false, false, false, false, false, false, false, false] rfl rfl (any_of HT_.out (by kernel_rfl)) (fun _ _ _ h => h) (Or.inl ⟨by rfl, ?_⟩) ?_ ?_
                rotate_left
                ·intro w'
                 go_simp
                 with_reducible rfl
                rotate_left
                ·simp only [Act.put, sz1, sz2, sz3, i64_w, i32_w]
                 rfl
                refine pure_ (i := 15) (N := some 53) (v := ?_) (a' := ?_) #[true, true, true, true, true, true, true, true, true, true, true, true, true, false, true, true, false, false, false, false, false, false, false, false, false, false, false] rfl rfl (any_of HT_.out (by kernel_rfl)) (fun _ _ _ h => h) (Or.inl ⟨by rfl, ?_⟩) ?_ ?_
                rotate_left
                ·intro w'
                 go_simp
                 with_reducible rfl
                rotate_left
                ·simp only [Act.put, sz1, sz2, sz3, i64_w, i32_w]
                 rfl
                refine pure_ (i := 16) (N := some 54) (v := ?_) (a' := ?_) #[true, true, true, true, true, true, true, true, true, true, true, true, true, false, true, true, true, false, false, false, false, false, false, false, false, false, false] rfl rfl (any_of HT_.out (by kernel_rfl)) (fun _ _ _ h => h) (Or.inl ⟨by rfl, ?_⟩) ?_ ?_
                rotate_left
                ·intro w'
                 go_simp
                 with_reducible rfl
                rotate_left
                ·simp only [Act.put, sz1, sz2, sz3, i64_w, i32_w]
                 rfl
                refine pure_ (i := 17) (N := some 55) (v := ?_) (a' := ?_) #[true, true, true, true, true, true, true, true, true, true, true, true, true, false, true, true, true, true, false, false, false, false, false, false, false, false, false] rfl rfl (any_of HT_.out (by kernel_rfl)) (fun _ _ _ h => h) (Or.inl ⟨by rfl, ?_⟩) ?_ ?_
                rotate_left
                ·intro w'
                 go_simp
                 with_reducible rfl
                rotate_left
                ·simp only [Act.put, sz1, sz2, sz3, i64_w, i32_w]
                 rfl
                refine pure_ (i := 18) (N := some 56) (v := ?_) (a' := ?_) #[true, true, true, true, true, true, true, true, true, true, true, true, true, false, true, true, true, true, true, false, false, false, false, false, false, false, false] rfl rfl (any_of HT_.out (by kernel_rfl)) (fun _ _ _ h => h) (Or.inl ⟨by rfl, ?_⟩) ?_ ?_
                rotate_left
                ·intro w'
                 go_simp
                 with_reducible rfl
                rotate_left
                ·simp only [Act.put, sz1, sz2, sz3, i64_w, i32_w]
                 rfl
                refine pure_ (i := 19) (N := some 57) (v := ?_) (a' := ?_) #[true, true, true, true, true, true, true, true, true, true, true, true, true, false, true, true, true, true, true, true, false, false, false, false, false, false, false] rfl rfl (any_of HT_.out (by kernel_rfl)) (fun _ _ _ h => h) (Or.inl ⟨by rfl, ?_⟩) ?_ ?_
                rotate_left
                ·intro w'
                 go_simp
                 with_reducible rfl
                rotate_left
                ·simp only [Act.put, sz1, sz2, sz3, i64_w, i32_w]
                 rfl
                refine pure_ (i := 23) (N := some 61) (v := ?_) (a' := ?_) #[true, true, true, true, true, true, true, true, true, true, true, true, true, false, true, true, true, true, true, true, false, false, false, true, false, false, false] rfl rfl (any_of HT_.out (by kernel_rfl)) (fun _ _ _ h => h) (Or.inl ⟨by rfl, ?_⟩) ?_ ?_
                rotate_left
                ·intro w'
                 go_simp
                 with_reducible rfl
                rotate_left
                ·simp only [Act.put, sz1, sz2, sz3, i64_w, i32_w]
                 rfl
                refine take_ (i := 13) (N := some 51) (v := ?_) (a' := ?_) #[true, true, true, true, true, true, true, true, true, true, true, true, true, true, true, true, true, true, true, true, false, false, false, true, false, false, false] rfl rfl (take_ofW HT_.out HW_.out (by kernel_rfl)) (fun _ _ _ h => h) (Or.inl ⟨by rfl, ?_⟩) hHeld ?_ ?_
                rotate_left
                ·rintro w' ⟨s0, s1⟩
                 go_simp
                 with_reducible rfl
                rotate_left
                ·simp only [Act.put, sz1, sz2, sz3, i64_w, i32_w]
                 rfl
                refine take_ (i := 20) (N := some 58) (v := ?_) (a' := ?_) #[true, true, true, true, true, true, true, true, true, true, true, true, true, true, true, true, true, true, true, true, true, false, false, true, false, false, false] rfl rfl (take_ofW HT_.out HW_.out (by kernel_rfl)) (fun _ _ _ h => h) (Or.inl ⟨by rfl, ?_⟩) hHeld ?_ ?_
                rotate_left
                ·rintro w' ⟨s0, s1⟩
                 go_simp
                 with_reducible rfl
                rotate_left
                ·simp only [Act.put, sz1, sz2, sz3, i64_w, i32_w]
                 rfl
                refine pure_ (i := 21) (N := some 59) (v := ?_) (a' := ?_) #[true, true, true, true, true, true, true, true, true, true, true, true, true, true, true, true, true, true, true, true, true, true, false, true, false, false, false] rfl rfl (any_of HT_.out (by kernel_rfl)) (fun _ _ _ h => h) (Or.inl ⟨by rfl, ?_⟩) ?_ ?_
                rotate_left
                ·intro w'
                 go_simp
                 with_reducible rfl
                rotate_left
                ·simp only [Act.put, sz1, sz2, sz3, i64_w, i32_w]
                 rfl
                refine pure_ (i := 22) (N := some 60) (v := ?_) (a' := ?_) #[true, true, true, true, true, true, true, true, true, true, true, true, true, true, true, true, true, true, true, true, true, true, true, true, false, false, false] rfl rfl (any_of HT_.out (by kernel_rfl)) (fun _ _ _ h => h) (Or.inl ⟨by rfl, ?_⟩) ?_ ?_
                rotate_left
                ·intro w'
                 go_simp
                 with_reducible rfl
                rotate_left
                ·simp only [Act.put, sz1, sz2, sz3, i64_w, i32_w]
                 rfl
                refine pure_ (i := 24) (N := some 62) (v := ?_) (a' := ?_) #[true, true, true, true, true, true, true, true, true, true, true, true, true, true, true, true, true, true, true, true, true, true, true, true, true, false, false] rfl rfl (any_of HT_.out (by kernel_rfl)) (fun _ _ _ h => h) (Or.inl ⟨by rfl, ?_⟩) ?_ ?_
                rotate_left
                ·intro w'
                 go_simp
                 with_reducible rfl
                rotate_left
                ·simp only [Act.put, sz1, sz2, sz3, i64_w, i32_w]
                 rfl
                refine pure_ (i := 25) (N := some 63) (v := ?_) (a' := ?_) #[true, true, true, true, true, true, true, true, true, true, true, true, true, true, true, true, true, true, true, true, true, true, true, true, true, true, false] rfl rfl (any_of HT_.out (by kernel_rfl)) (fun _ _ _ h => h) (Or.inl ⟨by rfl, ?_⟩) ?_ ?_
                rotate_left
                ·intro w'
                 go_simp
                 with_reducible rfl
                rotate_left
                ·simp only [Act.put, sz1, sz2, sz3, i64_w, i32_w]
                 rfl
                refine last_ (i := 26) (N := none) #[true, true, true, true, true, true, true, true, true, true, true, true, true, true, true, true, true, true, true, true, true, true, true, true, true, true, true] rfl rfl (one_of HT_.out (by kernel_rfl)) (by decide) (fun K hK => ?_)
                refine skip_ (w1 := ?_) (by rfl) rfl ?_ ?_
                rotate_left
                ·go_simp
                 rfl
                refine hK.out _ _ ?_
                clear hK K
                refine done_ (done_of HT_.out (by kernel_rfl)) ?_
                try go_wp2
                (try simp only [← hl8_2])
                go_roundg k2
                case measure => have := HK1.out; have := HK2.out; omega
                case rel => exact ⟨(y163), (wrap64 (x11_2 + 1)), (by first | rfl | (simp; done) | (simp [*]; done)), H', ⟨by have := HK1.out; have := HK2.out; omega⟩, ⟨by (try simp only [hl8_1]); (try simp only [hl8_2]); (with_reducible repeat (first | apply Kd.R_alloc | apply Kd.R_drewN | apply Kd.R_drew)); exact HQ23.out⟩, ⟨by repeat (first | (with_reducible first | exact HB.out | apply bA | apply bN | apply bD | refine bS ?_ GB160.out) | exact HB.out)⟩⟩
              ·rw [if_neg c19] at H
               exact absurd H (by simp)
             ·rw [if_neg c18] at H
              exact absurd H (by simp)
            ·rw [if_neg c17] at H
             exact absurd H (by simp)
           ·rw [if_neg c16] at H
            exact absurd H (by simp)
          ·rw [if_neg c14] at H
           have c14b0 : decide (x11_2 < (l0.length : Int)) = false := decide_eq_false c14
           (try (have c14b0h := c14b0; rw [hl8_1] at c14b0h))
           (try (have c14b0h := c14b0; rw [hl8_2] at c14b0h))
           clear c14
           by_cases c24 : 0 ≤ x9_1
           ·rw [if_pos c24] at H
            have c24b0 : decide (0 ≤ x9_1) = true := decide_eq_true c24
            clear c24
            by_cases c25 : x9_1 < (x8_2.length : Int)
            ·rw [if_pos c25] at H
             have c25b0 : decide (x9_1 < (x8_2.length : Int)) = true := decide_eq_true c25
             (try (have c25b0h := c25b0; rw [hl8_1] at c25b0h))
             (try (have c25b0h := c25b0; rw [hl8_2] at c25b0h))
             clear c25
             obtain ⟨y164, hy164⟩ : ∃ y_ : List Int, y_ = (x8_2.set (x9_1 : Int).toNat 0) := ⟨_, rfl⟩
             replace H : (r4divides.l0 k2 l0 a2 (l0.length : Int) y164 (wrap64 (x9_1 - 1))) = some r := by first | (rw [hy164]; with_reducible exact H) | (have H2_ := (Option.bind_some _ _).symm.trans H; rw [hy164]; with_reducible exact H2_) | (have H2_ := (Option.bind_some _ _).symm.trans H; with_reducible exact H2_) | with_reducible exact H | (rw [hy164]; exact H) | exact H
             have Ny164 := Q9a.mk hy164
             clear hy164
             have H' := Q9a.mk H
             clear H
             have p26 : 0 ≤ (x9_1 : Int) := of_decide_eq_true (by first | (with_reducible assumption) | assumption)
             have q26 : (x9_1 : Int) < ((x8_2.length : Int) : Int) := of_decide_eq_true (by first | (with_reducible assumption) | assumption)
             obtain ⟨hx26_0, hf26_0⟩ := Kd.R_celln 0 HO_8.out (x9_1 : Int) p26 q26
             replace p26 := eq_true p26
             replace q26 := eq_true q26
             have HP27 := Kd.R_putg HO_8.out (x9_1 : Int) 0
             go_wp2_with (first | ((with_reducible refine gate_store (t := 3) (p := 66) rfl ?_); refine store_event (t := 3) (p := 66) (v := ?vo_w28) (w1 := (wr.setCell ⟨go160, (x9_1 : Int).toNat, none⟩ (.int .i64 0))) ?hg ?ho ?hn ?hr ?_; (case ho => rfl); (case hg => rfl); (case hn => rfl); (case hr => first | (go_simp; done) | (go_simp; rfl)); intro w28 hw; have hg : wr.grownBy w28 (some go160) := (by rw [hw]; exact HP27.2); have hp_ : Kd.R (Kd.int .i64) 3 w28 w.heap.size (fun _ => True) (.slice (some ⟨go160, 0, none⟩) x8_2.length co10) y164 := (by rw [hw, Ny164.out]; exact HP27.1); clear HP27; have n0_ := Q9a.mk (hp_); have n1_ := Q9a.mk ((by rw [hw]; exact bS (HB.out) GB160.out : Below w.heap.size w w28)); clear HO_8; clear HB; have HO_8 := n0_; have HB := n1_; clear n0_ n1_; clear hg hw hp_))
             (try simp only [← hl8_1, ← hl8_2])
             go_roundg k2
             case measure => have := HK1.out; have := HK2.out; omega
             case rel => exact ⟨(y164), (wrap64 (x9_1 - 1)), (by first | rfl | (simp; done) | (simp [*]; done)), H', ⟨by have := HK1.out; have := HK2.out; omega⟩, ⟨by (try simp only [hl8_1]); (try simp only [hl8_2]); (with_reducible repeat (first | apply Kd.R_alloc | apply Kd.R_drewN | apply Kd.R_drew)); exact HO_8.out⟩, ⟨by repeat (first | (with_reducible first | exact HB.out | apply bA | apply bN | apply bD) | exact HB.out)⟩⟩
            ·rw [if_neg c25] at H
             exact absurd H (by simp)
           ·rw [if_neg c24] at H
            exact absurd H (by simp)
       ·rw [if_neg c13] at H
        exact absurd H (by simp)
      ·rw [if_neg c12] at H
       exact absurd H (by simp)
     ·rw [if_neg c11] at H
      have c11b0 : decide ((l0.length : Int) ≤ x9_1) = false := decide_eq_false c11
      (try (have c11b0h := c11b0; rw [hl8_1] at c11b0h))
      clear c11
      have H' := Q9a.mk H
      clear H
      go_wp2
      go_loopg [12] k1 (fun kq v12 w' => ∃ (x12_2 : Int), v12 = .int .i64 x12_2 ∧ Q9a (r4divides.l2 kq x8_1 x12_2 = some r) ∧ Q9a (kq ≤ k1) ∧ Q9a (Kd.R (Kd.int .i64) 3 w' w.heap.size (fun _ => True) (.slice Ao10 x8_1.length co10) x8_1) ∧ Q9a (Below w.heap.size w w'))
      case atStart => exact ⟨(0), (by first | rfl | (simp; done) | (simp [*]; done)), H', ⟨Nat.le_refl _⟩, ⟨by (try simp only [hl8_1]); (with_reducible repeat (first | apply Kd.R_alloc | apply Kd.R_drewN | apply Kd.R_drew)); exact HO_8.out⟩, ⟨by repeat (first | (with_reducible first | exact HB.out | apply bA | apply bN | apply bD) | exact HB.out)⟩⟩
      case round =>
       clear H'
       try clear c1
       try clear p1
       try clear q1
       try clear hx1
       try clear c2
       try clear p2
       try clear q2
       try clear hx2
       try clear c4
       try clear c5
       try clear c6
       try clear p6
       try clear c11
       try clear c11b0
       try clear c12
       try clear c12b0
       try clear c13
       try clear c13b0
       try clear c14
       try clear c14b0
       try clear c16
       try clear c16b0
       try clear p16
       try clear q16
       try clear hx16
       try clear c17
       try clear c17b0
       try clear c18
       try clear c18b0
       try clear c19
       try clear c19b0
       try clear c20
       try clear c20b0
       try clear c20b1
       try clear p21
       try clear q21
       try clear hx21
       try clear hf21
       try clear c24
       try clear c24b0
       try clear c25
       try clear c25b0
       try clear p26
       try clear q26
       try clear hx26
       try clear hf26
       try clear hx160_0
       try clear hx161_0
       try clear hx162_0
       try clear hx21_0
       try clear hx26_0
       try clear p1
       try clear p160
       try clear p161
       try clear p162
       try clear p2
       try clear p21
       try clear p26
       try clear p6
       try clear q1
       try clear q160
       try clear q161
       try clear q162
       try clear q21
       try clear q26
       obtain ⟨x12_2, rfl, HA, HK2, HO_8, HB⟩ := hrel
       cases gk with
       | zero => exact absurd HA.out (by simp [r4divides.l2])
       | succ k2 =>
        have H := HA.out
        clear HA
        simp only [r4divides.l2] at H
        by_cases c29 : x12_2 < (x8_1.length : Int)
        ·rw [if_pos c29] at H
         have c29b0 : decide (x12_2 < (x8_1.length : Int)) = true := decide_eq_true c29
         (try (have c29b0h := c29b0; rw [hl8_1] at c29b0h))
         clear c29
         by_cases c30 : 0 ≤ x12_2
         ·rw [if_pos c30] at H
          have c30b0 : decide (0 ≤ x12_2) = true := decide_eq_true c30
          clear c30
          by_cases c31 : (rd x8_1 x12_2) = 0
          ·rw [if_pos c31] at H
           have c31b0 : ((rd x8_1 x12_2) == 0) = true := beq_iff_eq.mpr c31
           have c31b1 : ((rd x8_1 x12_2) != 0) = false := bne_eq_false_iff_eq.mpr c31
           clear c31
           have H' := Q9a.mk H
           clear H
           have p165 : 0 ≤ (x12_2 : Int) := of_decide_eq_true (by first | (with_reducible assumption) | assumption)
           have q165 : x12_2 < (x8_1.length : Int) := of_decide_eq_true (by first | (with_reducible assumption) | assumption)
           obtain ⟨ad165, e165, hx165_0⟩ := Kd.at_int (Kd.R_reads' HO_8.out).2.2 x12_2 p165 q165
           cases e165
           obtain ⟨go165, co165, eo165, gb165, gl165, cl165, HGf165⟩ := Kd.R_form HO_8.out (by omega)
           (injection eo165 with ea_ en_ ec_; injection ea_ with ea_; subst ea_; subst ec_; clear en_)
           have GB165 := Q9a.mk gb165
           have GG165 := Q9a.mk HGf165
           clear gb165 gl165 HGf165
           (first | simp only [add_plain] at hx165_0 | skip)
           replace p165 := eq_true p165
           replace q165 := eq_true q165
           go_wp2
           go_roundg k2
           case measure => have := HK1.out; have := HK2.out; omega
           case rel => exact ⟨(wrap64 (x12_2 + 1)), (by first | rfl | (simp; done) | (simp [*]; done)), H', ⟨by have := HK1.out; have := HK2.out; omega⟩, ⟨by (try simp only [hl8_1]); (with_reducible repeat (first | apply Kd.R_alloc | apply Kd.R_drewN | apply Kd.R_drew)); exact HO_8.out⟩, ⟨by repeat (first | (with_reducible first | exact HB.out | apply bA | apply bN | apply bD) | exact HB.out)⟩⟩
          ·rw [if_neg c31] at H
           have c31b0 : ((rd x8_1 x12_2) == 0) = false := beq_eq_false_iff_ne.mpr c31
           have c31b1 : ((rd x8_1 x12_2) != 0) = true := bne_iff_ne.mpr c31
           obtain rfl := Option.some.inj H
           have p165 : 0 ≤ (x12_2 : Int) := of_decide_eq_true (by first | (with_reducible assumption) | assumption)
           have q165 : x12_2 < (x8_1.length : Int) := of_decide_eq_true (by first | (with_reducible assumption) | assumption)
           obtain ⟨ad165, e165, hx165_0⟩ := Kd.at_int (Kd.R_reads' HO_8.out).2.2 x12_2 p165 q165
           cases e165
           obtain ⟨go165, co165, eo165, gb165, gl165, cl165, HGf165⟩ := Kd.R_form HO_8.out (by omega)
           (injection eo165 with ea_ en_ ec_; injection ea_ with ea_; subst ea_; subst ec_; clear en_)
           have GB165 := Q9a.mk gb165
           have GG165 := Q9a.mk HGf165
           clear gb165 gl165 HGf165
           (first | simp only [add_plain] at hx165_0 | skip)
           replace p165 := eq_true p165
           replace q165 := eq_true q165
           go_wp2
           go_ret
           exact ⟨by first | rfl | (simp [eN, eS] <;> rfl) | (simp [*, eN, eS] <;> rfl), by repeat (first | (with_reducible first | exact HB.out | apply bA | apply bN | apply bD) | exact HB.out)⟩
         ·rw [if_neg c30] at H
          exact absurd H (by simp)
        ·rw [if_neg c29] at H
         have c29b0 : decide (x12_2 < (x8_1.length : Int)) = false := decide_eq_false c29
         (try (have c29b0h := c29b0; rw [hl8_1] at c29b0h))
         clear c29
         obtain rfl := Option.some.inj H
         go_wp2
         go_ret
         exact ⟨by first | rfl | (simp [eN, eS] <;> rfl) | (simp [*, eN, eS] <;> rfl), by repeat (first | (with_reducible first | exact HB.out | apply bA | apply bN | apply bD) | exact HB.out)⟩
  ·rw [if_neg c5] at H
   exact absurd H (by simp)
 ·rw [if_neg c4] at H
  exact absurd H (by simp)
mutual
def r4irreducible.l0 : Nat → List Int → Int → Int → Int → Option (Bool)
 | 0, _, _, _, _ => none
 | k + 1, x0, x1, x5, x6 => if (wrap64 (2 * x6)) ≤ (x0.length : Int) then (r4irreducible.l1 k x0 x1 (wrap64 (x5 * x1)) x6 0) else (some true)
def r4irreducible.l1 : Nat → List Int → Int → Int → Int → Int → Option (Bool)
 | 0, _, _, _, _, _ => none
 | k + 1, x0, x1, x5, x6, x7 => if x7 < x5 then ((r4digits.f k x7 x1 x6).bind fun t166 => ((r4divides.f k t166 x0 x1).bind fun t169 => (if t169 = true then (some false) else (r4irreducible.l1 k x0 x1 x5 x6 (wrap64 (x7 + 1)))))) else (r4irreducible.l0 k x0 x1 x5 (wrap64 (x6 + 1)))
end
def r4irreducible.f (k : Nat) (l0 : List Int) (a1 : Int) : Option (Bool) := r4irreducible.l0 k l0 a1 1 1
set_option maxHeartbeats 8000000 in
set_option maxRecDepth 100000 in
theorem r4irreducible.calls (k : Nat) (A0 : Option Addr) (c0 : Nat) (l0 : List Int) (a1 : Int) (r : Bool) (w : World) (hr0 : Kd.C (Kd.int .i64) w A0 l0.length l0) (hc0 : l0.length ≤ c0) (h : r4irreducible.f k l0 a1 = some r) :
  Calls Try.prog 61 #[.slice A0 l0.length c0, .int .i64 a1] w fun e w' => e = .returned (.bool r) ∧ Below w.heap.size w w' := by
 have HR0 := Q9a.mk hr0
 have HC0 := Q9a.mk hc0
 clear hr0 hc0
 have HB := Q9a.mk (Below.refl w.heap.size w)
 have H : (r4irreducible.l0 k l0 a1 1 1) = some r := h
 clear h
 have H' := Q9a.mk H
 clear H
 go_enter Try.func61, Try.ntmps61
 go_wp2
 go_loopg [5, 6] k (fun kq v5 v6 w' => ∃ (x5_1 : Int) (x6_1 : Int), v5 = .int .i64 x5_1 ∧ v6 = .int .i64 x6_1 ∧ Q9a (r4irreducible.l0 kq l0 a1 x5_1 x6_1 = some r) ∧ Q9a (kq ≤ k) ∧ Q9a (Below w.heap.size w w'))
 case atStart => exact ⟨(1), (1), (by first | rfl | (simp; done) | (simp [*]; done)), (by first | rfl | (simp; done) | (simp [*]; done)), H', ⟨Nat.le_refl _⟩, ⟨by repeat (first | (with_reducible first | exact HB.out | apply bA | apply bN | apply bD) | exact HB.out)⟩⟩
 case round =>
  clear H'
  try clear p2
  obtain ⟨x5_1, x6_1, rfl, rfl, HA, HK1, HB⟩ := hrel
  cases gk with
  | zero => exact absurd HA.out (by simp [r4irreducible.l0])
  | succ k1 =>
   have H := HA.out
   clear HA
   simp only [r4irreducible.l0] at H
   by_cases c3 : (wrap64 (2 * x6_1)) ≤ (l0.length : Int)
   ·rw [if_pos c3] at H
    have c3b0 : decide ((wrap64 (2 * x6_1)) ≤ (l0.length : Int)) = true := decide_eq_true c3
    clear c3
    have H' := Q9a.mk H
    clear H
    go_wp2
    go_loopg [7] k1 (fun kq v7 w' => ∃ (x7_2 : Int), v7 = .int .i64 x7_2 ∧ Q9a (r4irreducible.l1 kq l0 a1 (wrap64 (x5_1 * a1)) x6_1 x7_2 = some r) ∧ Q9a (kq ≤ k1) ∧ Q9a (Below w.heap.size w w'))
    case atStart => exact ⟨(0), (by first | rfl | (simp; done) | (simp [*]; done)), H', ⟨Nat.le_refl _⟩, ⟨by repeat (first | (with_reducible first | exact HB.out | apply bA | apply bN | apply bD) | exact HB.out)⟩⟩
    case round =>
     clear H'
     try clear p2
     try clear c3
     try clear c3b0
     try clear p2
     obtain ⟨x7_2, rfl, HA, HK2, HB⟩ := hrel
     cases gk with
     | zero => exact absurd HA.out (by simp [r4irreducible.l1])
     | succ k2 =>
      have H := HA.out
      clear HA
      simp only [r4irreducible.l1] at H
      by_cases c4 : x7_2 < (wrap64 (x5_1 * a1))
      ·rw [if_pos c4] at H
       have c4b0 : decide (x7_2 < (wrap64 (x5_1 * a1))) = true := decide_eq_true c4
       clear c4
       replace H := Option.bind_eq_some_iff.mp H
       obtain ⟨t166, A50, H⟩ := H
       replace H : ((r4divides.f k2 t166 l0 a1).bind fun t169 => (if t169 = true then (some false) else (r4irreducible.l1 k2 l0 a1 (wrap64 (x5_1 * a1)) x6_1 (wrap64 (x7_2 + 1))))) = some r := H
       have A5 := Q9a.mk A50
       clear A50
       replace H := Option.bind_eq_some_iff.mp H
       obtain ⟨t169, A60, H⟩ := H
       replace H : (if t169 = true then (some false) else (r4irreducible.l1 k2 l0 a1 (wrap64 (x5_1 * a1)) x6_1 (wrap64 (x7_2 + 1)))) = some r := H
       have A6 := Q9a.mk A60
       clear A60
       by_cases c7 : t169 = true
       ·subst c7
        have H1 : (some false) = some r := by rw [if_pos rfl] at H; exact H
        clear H
        have H := H1
        clear H1
        obtain rfl := Option.some.inj H
        go_wp2_with (first | ((with_reducible refine gate_callee (f := 64) rfl ?_); refine goesL_ (some 26) rfl rfl Try.func64 (by kernel_rfl) rfl #[.int .i64 x7_2, .int .i64 a1, .int .i64 x6_1] rfl (by (try simp only [List.map_toArray, List.map_cons, List.map_nil]); first | done | rfl | (simp only [List.length_drop, List.length_take]; rfl)) ?_; (with_reducible refine (r4digits.calls k2 x7_2 a1 x6_1 t166 _ A5.out).mono ?_); rintro e w8 ⟨v167, rfl, ho0, hb⟩; refine ⟨_, rfl, ?_⟩; have n0_ := Q9a.mk (Kd.R_lower ho0 (bZ (by repeat (first | (with_reducible first | exact HB.out | apply bA | apply bN | apply bD) | exact HB.out)))); have n1_ := Q9a.mk (bP (by repeat (first | (with_reducible first | exact HB.out | apply bA | apply bN | apply bD) | exact HB.out)) hb); clear HB; have HO168 := n0_; have HB := n1_; clear n0_ n1_; (try clear hb); (try clear hb2); (try clear hk); (try clear hi); (try clear ho0); obtain ⟨Ao9, co9, eo9⟩ := Kd.R_slice HO168.out; subst eo9) | ((with_reducible refine gate_callee (f := 68) rfl ?_); refine goesL_ (some 29) rfl rfl Try.func68 (by kernel_rfl) rfl #[.slice Ao9 t166.length co9, .slice A0 l0.length c0, .int .i64 a1] rfl (by (try simp only [List.map_toArray, List.map_cons, List.map_nil]); first | done | rfl | (simp only [List.length_drop, List.length_take]; rfl)) ?_; (with_reducible refine (r4divides.calls k2 _ _ t166 _ _ l0 a1 true _ ?side1 ?side2 ?side3 ?side4 A6.out).mono ?_); (case side1 => repeat (first | exact (Kd.R_reads' HO168.out).2.2 | (with_reducible refine Kd.C_alloc ?_ _) | (with_reducible refine Kd.C_drewN ?_ _) | (with_reducible refine Kd.C_drew ?_))); (case side2 => exact (Kd.R_reads' HO168.out).2.1); (case side3 => repeat (first | exact (Kd.C_below HR0.out HB.out) | (with_reducible refine Kd.C_alloc ?_ _) | (with_reducible refine Kd.C_drewN ?_ _) | (with_reducible refine Kd.C_drew ?_))); (case side4 => exact HC0.out); rintro e w10 ⟨rfl, hb⟩; refine ⟨_, rfl, ?_⟩; have n0_ := Q9a.mk (Kd.R_below (by (with_reducible repeat (first | apply Kd.R_alloc | apply Kd.R_drewN | apply Kd.R_drew)); exact HO168.out) hb); have n1_ := Q9a.mk (bP (by repeat (first | (with_reducible first | exact HB.out | apply bA | apply bN | apply bD) | exact HB.out)) hb); clear HO168; clear HB; have HO168 := n0_; have HB := n1_; clear n0_ n1_; (try clear hb); (try clear hb2); (try clear hk); (try clear hi)))
        go_ret
        exact ⟨by first | rfl | (simp [eN, eS] <;> rfl) | (simp [*, eN, eS] <;> rfl), by repeat (first | (with_reducible first | exact HB.out | apply bA | apply bN | apply bD) | exact HB.out)⟩
       ·replace c7 := Bool.eq_false_iff.mpr c7
        subst c7
        have H1 : (r4irreducible.l1 k2 l0 a1 (wrap64 (x5_1 * a1)) x6_1 (wrap64 (x7_2 + 1))) = some r := by rw [if_neg (show ¬ (false = true) by decide)] at H; exact H
        clear H
        have H := H1
        clear H1
        have H' := Q9a.mk H
        clear H
        go_wp2_with (first | ((with_reducible refine gate_callee (f := 64) rfl ?_); refine goesL_ (some 26) rfl rfl Try.func64 (by kernel_rfl) rfl #[.int .i64 x7_2, .int .i64 a1, .int .i64 x6_1] rfl (by (try simp only [List.map_toArray, List.map_cons, List.map_nil]); first | done | rfl | (simp only [List.length_drop, List.length_take]; rfl)) ?_; (with_reducible refine (r4digits.calls k2 x7_2 a1 x6_1 t166 _ A5.out).mono ?_); rintro e w11 ⟨v167, rfl, ho0, hb⟩; refine ⟨_, rfl, ?_⟩; have n0_ := Q9a.mk (Kd.R_lower ho0 (bZ (by repeat (first | (with_reducible first | exact HB.out | apply bA | apply bN | apply bD) | exact HB.out)))); have n1_ := Q9a.mk (bP (by repeat (first | (with_reducible first | exact HB.out | apply bA | apply bN | apply bD) | exact HB.out)) hb); clear HB; have HO168 := n0_; have HB := n1_; clear n0_ n1_; (try clear hb); (try clear hb2); (try clear hk); (try clear hi); (try clear ho0); obtain ⟨Ao12, co12, eo12⟩ := Kd.R_slice HO168.out; subst eo12) | ((with_reducible refine gate_callee (f := 68) rfl ?_); refine goesL_ (some 29) rfl rfl Try.func68 (by kernel_rfl) rfl #[.slice Ao12 t166.length co12, .slice A0 l0.length c0, .int .i64 a1] rfl (by (try simp only [List.map_toArray, List.map_cons, List.map_nil]); first | done | rfl | (simp only [List.length_drop, List.length_take]; rfl)) ?_; (with_reducible refine (r4divides.calls k2 _ _ t166 _ _ l0 a1 false _ ?side1 ?side2 ?side3 ?side4 A6.out).mono ?_); (case side1 => repeat (first | exact (Kd.R_reads' HO168.out).2.2 | (with_reducible refine Kd.C_alloc ?_ _) | (with_reducible refine Kd.C_drewN ?_ _) | (with_reducible refine Kd.C_drew ?_))); (case side2 => exact (Kd.R_reads' HO168.out).2.1); (case side3 => repeat (first | exact (Kd.C_below HR0.out HB.out) | (with_reducible refine Kd.C_alloc ?_ _) | (with_reducible refine Kd.C_drewN ?_ _) | (with_reducible refine Kd.C_drew ?_))); (case side4 => exact HC0.out); rintro e w13 ⟨rfl, hb⟩; refine ⟨_, rfl, ?_⟩; have n0_ := Q9a.mk (Kd.R_below (by (with_reducible repeat (first | apply Kd.R_alloc | apply Kd.R_drewN | apply Kd.R_drew)); exact HO168.out) hb); have n1_ := Q9a.mk (bP (by repeat (first | (with_reducible first | exact HB.out | apply bA | apply bN | apply bD) | exact HB.out)) hb); clear HO168; clear HB; have HO168 := n0_; have HB := n1_; clear n0_ n1_; (try clear hb); (try clear hb2); (try clear hk); (try clear hi)))
        go_roundg k2
        case measure => have := HK1.out; have := HK2.out; omega
        case rel => exact ⟨(wrap64 (x7_2 + 1)), (by first | rfl | (simp; done) | (simp [*]; done)), H', ⟨by have := HK1.out; have := HK2.out; omega⟩, ⟨by repeat (first | (with_reducible first | exact HB.out | apply bA | apply bN | apply bD) | exact HB.out)⟩⟩
      ·rw [if_neg c4] at H
       have c4b0 : decide (x7_2 < (wrap64 (x5_1 * a1))) = false := decide_eq_false c4
       clear c4
       have H' := Q9a.mk H
       clear H
       go_wp2
       go_roundg k2
       case measure => have := HK1.out; have := HK2.out; omega
       case rel => exact ⟨((wrap64 (x5_1 * a1))), (wrap64 (x6_1 + 1)), (by first | rfl | (simp; done) | (simp [*]; done)), (by first | rfl | (simp; done) | (simp [*]; done)), H', ⟨by have := HK1.out; have := HK2.out; omega⟩, ⟨by repeat (first | (with_reducible first | exact HB.out | apply bA | apply bN | apply bD) | exact HB.out)⟩⟩
   ·rw [if_neg c3] at H
    have c3b0 : decide ((wrap64 (2 * x6_1)) ≤ (l0.length : Int)) = false := decide_eq_false c3
    clear c3
    obtain rfl := Option.some.inj H
    go_wp2
    go_ret
    exact ⟨by first | rfl | (simp [eN, eS] <;> rfl) | (simp [*, eN, eS] <;> rfl), by repeat (first | (with_reducible first | exact HB.out | apply bA | apply bN | apply bD) | exact HB.out)⟩
end
end Go.Proofs.Ytbohbfggmnjpdaa.P
end
-- Pa4
section
namespace Go.Proofs.Ytbohbfggmnjpdaa.P
noncomputable section
open Go.RowKit Go.Proofs.Ytbohbfggmnjpdaa.Hand Go.Proofs.YtbohbfggmnjpdaaW.PrintWords Go.Proofs.YtbohbfggmnjpdaaW.PrintLast Go.Proofs.YtbohbfggmnjpdaaW.PrintMore
set_option linter.unusedVariables false
set_option linter.unusedSimpArgs false
mutual
def r4Check.j0 : Nat → Bool → Int → Int → List Int → Option (Int)
 | 0, _, _, _, _ => none
 | k + 1, x12, x171000, x171001, x171002 => if x12 = true then (some 1) else (if x171001 = 1 then (if (x171002.length : Int) = 0 then (some 0) else (some 1)) else (if (x171002.length : Int) = x171001 then (r4Check.l0 k 0 x171000 x171001 x171002) else (some 1)))
def r4Check.l0 : Nat → Int → Int → Int → List Int → Option (Int)
 | 0, _, _, _, _ => none
 | k + 1, x3, x171000, x171001, x171002 => if x3 < x171001 then (if 0 ≤ x3 then (if x3 < (x171002.length : Int) then (if (rd x171002 x3) < 0 then (some 1) else (if (rd x171002 x3) ≥ x171000 then (some 1) else (r4Check.l0 k (wrap64 (x3 + 1)) x171000 x171001 x171002))) else (none)) else (none)) else ((r4irreducible.f k x171002 x171000).bind fun t175 => (if t175 = true then (some 0) else (some 1)))
end
def r4Check.f (k : Nat) (a0_0 : Int) (a0_1 : Int) (l0_2 : List Int) : Option (Int) := (r4Order.f k a0_0 a0_1 l0_2).bind fun t171 => (if t171 = 0 then (r4Check.j0 k true a0_0 a0_1 l0_2) else ((r4prime.f k a0_0).bind fun t172 => (r4Check.j0 k (!t172) a0_0 a0_1 l0_2)))
set_option maxHeartbeats 8000000 in
set_option maxRecDepth 100000 in
theorem r4Check.calls (k : Nat) (a0_0 : Int) (a0_1 : Int) (A0_2 : Option Addr) (c0_2 : Nat) (l0_2 : List Int) (r : Int) (w : World) (hr0_2 : Kd.C (Kd.int .i64) w A0_2 l0_2.length l0_2) (hc0_2 : l0_2.length ≤ c0_2) (h : r4Check.f k a0_0 a0_1 l0_2 = some r) :
  Calls Try.prog 39 #[.agg #[.int .i64 a0_0, .int .i64 a0_1, .slice A0_2 l0_2.length c0_2]] w fun e w' => e = .returned (.int .i64 r) ∧ Below w.heap.size w w' := by
 have hu24 := Try.underlying24
 have HR0_2 := Q9a.mk hr0_2
 have HC0_2 := Q9a.mk hc0_2
 clear hr0_2 hc0_2
 have HB := Q9a.mk (Below.refl w.heap.size w)
 have H : ((r4Order.f k a0_0 a0_1 l0_2).bind fun t171 => (if t171 = 0 then (r4Check.j0 k true a0_0 a0_1 l0_2) else ((r4prime.f k a0_0).bind fun t172 => (r4Check.j0 k (!t172) a0_0 a0_1 l0_2)))) = some r := h
 clear h
 have HC2 := Q9a.mk H
 clear H
 go_enter Try.func39, Try.ntmps39
 go_upto_region 1 with (first | ((with_reducible refine gate_dst (N := 1) rfl ?_); refine box_event ?hg (N := 1) ?hd (cs := #[.int .i64 a0_0, .int .i64 a0_1, .slice A0_2 l0_2.length c0_2]) (t := 24) ?hr ?_; (case hd => rfl); (case hg => rfl); (case hr => first | (go_simp; done) | (go_simp; rfl)); intro gb170 hg w3 hbox hb; have n0_ := Q9a.mk (bP (by repeat (first | (with_reducible first | exact HB.out | apply bA | apply bN | apply bD) | exact HB.out)) hb); have n1_ := Q9a.mk (hbox); have n2_ := Q9a.mk ((by rw [hg]; exact (bZ (by repeat (first | (with_reducible first | exact HB.out | apply bA | apply bN | apply bD) | exact HB.out))) : w.heap.size ≤ gb170)); have n3_ := Q9a.mk ((by rw [hg]; exact (bZ (by repeat (first | (with_reducible first | exact HB.out | apply bA | apply bN | apply bD) | exact HB.out))) : w.heap.size ≤ gb170)); clear HB; have HB := n0_; have BK170 := n1_; have GW170 := n2_; have GE170 := n3_; clear n0_ n1_ n2_ n3_; clear hb hbox hg))
 repeat (go_quiet (first | ((with_reducible refine gate_dst (N := 1) rfl ?_); refine box_event ?hg (N := 1) ?hd (cs := #[.int .i64 a0_0, .int .i64 a0_1, .slice A0_2 l0_2.length c0_2]) (t := 24) ?hr ?_; (case hd => rfl); (case hg => rfl); (case hr => first | (go_simp; done) | (go_simp; rfl)); intro gb170 hg w3 hbox hb; have n0_ := Q9a.mk (bP (by repeat (first | (with_reducible first | exact HB.out | apply bA | apply bN | apply bD) | exact HB.out)) hb); have n1_ := Q9a.mk (hbox); have n2_ := Q9a.mk ((by rw [hg]; exact (bZ (by repeat (first | (with_reducible first | exact HB.out | apply bA | apply bN | apply bD) | exact HB.out))) : w.heap.size ≤ gb170)); have n3_ := Q9a.mk ((by rw [hg]; exact (bZ (by repeat (first | (with_reducible first | exact HB.out | apply bA | apply bN | apply bD) | exact HB.out))) : w.heap.size ≤ gb170)); clear HB; have HB := n0_; have BK170 := n1_; have GW170 := n2_; have GE170 := n3_; clear n0_ n1_ n2_ n3_; clear hb hbox hg)); go_upto_region 1 with (first | ((with_reducible refine gate_dst (N := 1) rfl ?_); refine box_event ?hg (N := 1) ?hd (cs := #[.int .i64 a0_0, .int .i64 a0_1, .slice A0_2 l0_2.length c0_2]) (t := 24) ?hr ?_; (case hd => rfl); (case hg => rfl); (case hr => first | (go_simp; done) | (go_simp; rfl)); intro gb170 hg w3 hbox hb; have n0_ := Q9a.mk (bP (by repeat (first | (with_reducible first | exact HB.out | apply bA | apply bN | apply bD) | exact HB.out)) hb); have n1_ := Q9a.mk (hbox); have n2_ := Q9a.mk ((by rw [hg]; exact (bZ (by repeat (first | (with_reducible first | exact HB.out | apply bA | apply bN | apply bD) | exact HB.out))) : w.heap.size ≤ gb170)); have n3_ := Q9a.mk ((by rw [hg]; exact (bZ (by repeat (first | (with_reducible first | exact HB.out | apply bA | apply bN | apply bD) | exact HB.out))) : w.heap.size ≤ gb170)); clear HB; have HB := n0_; have BK170 := n1_; have GW170 := n2_; have GE170 := n3_; clear n0_ n1_ n2_ n3_; clear hb hbox hg)))
 (try simp only [Act.put, sz1, sz2, sz3])
 go_cut [12] (fun v12 wc => ∃ (kq : Nat) (x12_1 : Bool), v12 = .bool x12_1 ∧ Q9a (r4Check.j0 kq x12_1 a0_0 a0_1 l0_2 = some r) ∧ Q9a (kq ≤ k) ∧ Q9a (wc.heap[gb170]? = some (.cells #[.int .i64 a0_0, .int .i64 a0_1, (.slice A0_2 l0_2.length c0_2)] 24 (0, 0))) ∧ Q9a (Below w.heap.size w wc))
 case first =>
  have H := HC2.out
  clear HC2
  replace H := Option.bind_eq_some_iff.mp H
  obtain ⟨t171, A40, H⟩ := H
  replace H : (if t171 = 0 then (r4Check.j0 k true a0_0 a0_1 l0_2) else ((r4prime.f k a0_0).bind fun t172 => (r4Check.j0 k (!t172) a0_0 a0_1 l0_2))) = some r := H
  have A4 := Q9a.mk A40
  clear A40
  by_cases c5 : t171 = 0
  ·rw [if_pos c5] at H
   have c5b0 : (t171 == 0) = true := beq_iff_eq.mpr c5
   have c5b1 : (t171 != 0) = false := bne_eq_false_iff_eq.mpr c5
   clear c5
   (first | rw [c5b0] | (simp only [i64_w, i32_w]; rw [c5b0]) | skip)
   have H' := Q9a.mk H
   clear H
   have hcz6_0 : w3.cell? ⟨gb170, 0, none⟩ = some (.int .i64 a0_0) := (kC BK170.out 0).trans rfl
   have hcz6_1 : w3.cell? ⟨gb170, 1, none⟩ = some (.int .i64 a0_1) := (kC BK170.out 1).trans rfl
   have hcz6_2 : w3.cell? ⟨gb170, 2, none⟩ = some (.slice A0_2 l0_2.length c0_2) := (kC BK170.out 2).trans rfl
   have hfz6_0 := kF BK170.out 0
   have hfz6_1 := kF BK170.out 1
   have hfz6_2 := kF BK170.out 2
   go_wp2_with (first | (go_at_call 33; (with_reducible refine (r4Order.calls k a0_0 a0_1 _ _ l0_2 t171 _ ?side1 ?side2 A4.out).mono ?_); (case side1 => repeat (first | exact (Kd.C_below HR0_2.out HB.out) | (with_reducible refine Kd.C_alloc ?_ _) | (with_reducible refine Kd.C_drewN ?_ _) | (with_reducible refine Kd.C_drew ?_))); (case side2 => exact HC0_2.out); rintro e w7 ⟨rfl, hb⟩; have n0_ := Q9a.mk (kB (g := gb170) (o := .cells #[.int .i64 a0_0, .int .i64 a0_1, .slice A0_2 l0_2.length c0_2] 24 (0, 0)) (by (with_reducible repeat (first | refine kN ?_ _ | refine kD ?_ | refine kA ?_ _)); exact BK170.out) hb); have n1_ := Q9a.mk (bP (by repeat (first | (with_reducible first | exact HB.out | apply bA | apply bN | apply bD | refine bS ?_ GE170.out) | exact HB.out)) hb); clear BK170; clear HB; have BK170 := n0_; have HB := n1_; clear n0_ n1_; (try clear hb); (try clear hb2); (try clear hk); (try clear hi)))
   repeat (go_quiet (first | (go_at_call 33; (with_reducible refine (r4Order.calls k a0_0 a0_1 _ _ l0_2 t171 _ ?side1 ?side2 A4.out).mono ?_); (case side1 => repeat (first | exact (Kd.C_below HR0_2.out HB.out) | (with_reducible refine Kd.C_alloc ?_ _) | (with_reducible refine Kd.C_drewN ?_ _) | (with_reducible refine Kd.C_drew ?_))); (case side2 => exact HC0_2.out); rintro e w7 ⟨rfl, hb⟩; have n0_ := Q9a.mk (kB (g := gb170) (o := .cells #[.int .i64 a0_0, .int .i64 a0_1, .slice A0_2 l0_2.length c0_2] 24 (0, 0)) (by (with_reducible repeat (first | refine kN ?_ _ | refine kD ?_ | refine kA ?_ _)); exact BK170.out) hb); have n1_ := Q9a.mk (bP (by repeat (first | (with_reducible first | exact HB.out | apply bA | apply bN | apply bD | refine bS ?_ GE170.out) | exact HB.out)) hb); clear BK170; clear HB; have BK170 := n0_; have HB := n1_; clear n0_ n1_; (try clear hb); (try clear hb2); (try clear hk); (try clear hi))); try go_wp2_with (first | (go_at_call 33; (with_reducible refine (r4Order.calls k a0_0 a0_1 _ _ l0_2 t171 _ ?side1 ?side2 A4.out).mono ?_); (case side1 => repeat (first | exact (Kd.C_below HR0_2.out HB.out) | (with_reducible refine Kd.C_alloc ?_ _) | (with_reducible refine Kd.C_drewN ?_ _) | (with_reducible refine Kd.C_drew ?_))); (case side2 => exact HC0_2.out); rintro e w7 ⟨rfl, hb⟩; have n0_ := Q9a.mk (kB (g := gb170) (o := .cells #[.int .i64 a0_0, .int .i64 a0_1, .slice A0_2 l0_2.length c0_2] 24 (0, 0)) (by (with_reducible repeat (first | refine kN ?_ _ | refine kD ?_ | refine kA ?_ _)); exact BK170.out) hb); have n1_ := Q9a.mk (bP (by repeat (first | (with_reducible first | exact HB.out | apply bA | apply bN | apply bD | refine bS ?_ GE170.out) | exact HB.out)) hb); clear BK170; clear HB; have BK170 := n0_; have HB := n1_; clear n0_ n1_; (try clear hb); (try clear hb2); (try clear hk); (try clear hi))))
   go_meet
   case rel => exact ⟨_, (true), (by first | rfl | (simp; done) | (simp [*]; done)), H', ⟨by first | omega | exact Nat.le_refl _⟩, ⟨by (with_reducible repeat (first | refine kN ?_ _ | refine kD ?_ | refine kA ?_ _)); exact BK170.out⟩, ⟨by repeat (first | (with_reducible first | exact HB.out | apply bA | apply bN | apply bD | refine bS ?_ GE170.out) | exact HB.out)⟩⟩
  ·rw [if_neg c5] at H
   have c5b0 : (t171 == 0) = false := beq_eq_false_iff_ne.mpr c5
   have c5b1 : (t171 != 0) = true := bne_iff_ne.mpr c5
   (first | rw [c5b0] | (simp only [i64_w, i32_w]; rw [c5b0]) | skip)
   replace H := Option.bind_eq_some_iff.mp H
   obtain ⟨t172, A80, H⟩ := H
   replace H : (r4Check.j0 k (!t172) a0_0 a0_1 l0_2) = some r := H
   have A8 := Q9a.mk A80
   clear A80
   have H' := Q9a.mk H
   clear H
   have hcz9_0 : w3.cell? ⟨gb170, 0, none⟩ = some (.int .i64 a0_0) := (kC BK170.out 0).trans rfl
   have hcz9_1 : w3.cell? ⟨gb170, 1, none⟩ = some (.int .i64 a0_1) := (kC BK170.out 1).trans rfl
   have hcz9_2 : w3.cell? ⟨gb170, 2, none⟩ = some (.slice A0_2 l0_2.length c0_2) := (kC BK170.out 2).trans rfl
   have hfz9_0 := kF BK170.out 0
   have hfz9_1 := kF BK170.out 1
   have hfz9_2 := kF BK170.out 2
   go_wp2_with (first | (go_at_call 33; (with_reducible refine (r4Order.calls k a0_0 a0_1 _ _ l0_2 t171 _ ?side1 ?side2 A4.out).mono ?_); (case side1 => repeat (first | exact (Kd.C_below HR0_2.out HB.out) | (with_reducible refine Kd.C_alloc ?_ _) | (with_reducible refine Kd.C_drewN ?_ _) | (with_reducible refine Kd.C_drew ?_))); (case side2 => exact HC0_2.out); rintro e w10 ⟨rfl, hb⟩; have n0_ := Q9a.mk (kB (g := gb170) (o := .cells #[.int .i64 a0_0, .int .i64 a0_1, .slice A0_2 l0_2.length c0_2] 24 (0, 0)) (by (with_reducible repeat (first | refine kN ?_ _ | refine kD ?_ | refine kA ?_ _)); exact BK170.out) hb); have n1_ := Q9a.mk (bP (by repeat (first | (with_reducible first | exact HB.out | apply bA | apply bN | apply bD | refine bS ?_ GE170.out) | exact HB.out)) hb); clear BK170; clear HB; have BK170 := n0_; have HB := n1_; clear n0_ n1_; (try clear hb); (try clear hb2); (try clear hk); (try clear hi); have hcz11_0 : w10.cell? ⟨gb170, 0, none⟩ = some (.int .i64 a0_0) := (kC BK170.out 0).trans rfl; have hcz11_1 : w10.cell? ⟨gb170, 1, none⟩ = some (.int .i64 a0_1) := (kC BK170.out 1).trans rfl; have hcz11_2 : w10.cell? ⟨gb170, 2, none⟩ = some (.slice A0_2 l0_2.length c0_2) := (kC BK170.out 2).trans rfl; have hfz11_0 := kF BK170.out 0; have hfz11_1 := kF BK170.out 1; have hfz11_2 := kF BK170.out 2) | (go_at_call 60; (with_reducible refine (r4prime.calls k a0_0 t172 _ A8.out).mono ?_); rintro e w' ⟨rfl, ⟨nd, rfl⟩⟩; (try first | exact ⟨rfl, _, World.drewN_drewN _ _ _⟩ | exact ⟨rfl, _, Eq.trans (World.drewN_drewN _ _ _) (congrArg (World.drewN _) (Nat.add_assoc _ _ _))⟩)))
   repeat (go_quiet (first | (go_at_call 33; (with_reducible refine (r4Order.calls k a0_0 a0_1 _ _ l0_2 t171 _ ?side1 ?side2 A4.out).mono ?_); (case side1 => repeat (first | exact (Kd.C_below HR0_2.out HB.out) | (with_reducible refine Kd.C_alloc ?_ _) | (with_reducible refine Kd.C_drewN ?_ _) | (with_reducible refine Kd.C_drew ?_))); (case side2 => exact HC0_2.out); rintro e w10 ⟨rfl, hb⟩; have n0_ := Q9a.mk (kB (g := gb170) (o := .cells #[.int .i64 a0_0, .int .i64 a0_1, .slice A0_2 l0_2.length c0_2] 24 (0, 0)) (by (with_reducible repeat (first | refine kN ?_ _ | refine kD ?_ | refine kA ?_ _)); exact BK170.out) hb); have n1_ := Q9a.mk (bP (by repeat (first | (with_reducible first | exact HB.out | apply bA | apply bN | apply bD | refine bS ?_ GE170.out) | exact HB.out)) hb); clear BK170; clear HB; have BK170 := n0_; have HB := n1_; clear n0_ n1_; (try clear hb); (try clear hb2); (try clear hk); (try clear hi); have hcz11_0 : w10.cell? ⟨gb170, 0, none⟩ = some (.int .i64 a0_0) := (kC BK170.out 0).trans rfl; have hcz11_1 : w10.cell? ⟨gb170, 1, none⟩ = some (.int .i64 a0_1) := (kC BK170.out 1).trans rfl; have hcz11_2 : w10.cell? ⟨gb170, 2, none⟩ = some (.slice A0_2 l0_2.length c0_2) := (kC BK170.out 2).trans rfl; have hfz11_0 := kF BK170.out 0; have hfz11_1 := kF BK170.out 1; have hfz11_2 := kF BK170.out 2) | (go_at_call 60; (with_reducible refine (r4prime.calls k a0_0 t172 _ A8.out).mono ?_); rintro e w' ⟨rfl, ⟨nd, rfl⟩⟩; (try first | exact ⟨rfl, _, World.drewN_drewN _ _ _⟩ | exact ⟨rfl, _, Eq.trans (World.drewN_drewN _ _ _) (congrArg (World.drewN _) (Nat.add_assoc _ _ _))⟩))); try go_wp2_with (first | (go_at_call 33; (with_reducible refine (r4Order.calls k a0_0 a0_1 _ _ l0_2 t171 _ ?side1 ?side2 A4.out).mono ?_); (case side1 => repeat (first | exact (Kd.C_below HR0_2.out HB.out) | (with_reducible refine Kd.C_alloc ?_ _) | (with_reducible refine Kd.C_drewN ?_ _) | (with_reducible refine Kd.C_drew ?_))); (case side2 => exact HC0_2.out); rintro e w10 ⟨rfl, hb⟩; have n0_ := Q9a.mk (kB (g := gb170) (o := .cells #[.int .i64 a0_0, .int .i64 a0_1, .slice A0_2 l0_2.length c0_2] 24 (0, 0)) (by (with_reducible repeat (first | refine kN ?_ _ | refine kD ?_ | refine kA ?_ _)); exact BK170.out) hb); have n1_ := Q9a.mk (bP (by repeat (first | (with_reducible first | exact HB.out | apply bA | apply bN | apply bD | refine bS ?_ GE170.out) | exact HB.out)) hb); clear BK170; clear HB; have BK170 := n0_; have HB := n1_; clear n0_ n1_; (try clear hb); (try clear hb2); (try clear hk); (try clear hi); have hcz11_0 : w10.cell? ⟨gb170, 0, none⟩ = some (.int .i64 a0_0) := (kC BK170.out 0).trans rfl; have hcz11_1 : w10.cell? ⟨gb170, 1, none⟩ = some (.int .i64 a0_1) := (kC BK170.out 1).trans rfl; have hcz11_2 : w10.cell? ⟨gb170, 2, none⟩ = some (.slice A0_2 l0_2.length c0_2) := (kC BK170.out 2).trans rfl; have hfz11_0 := kF BK170.out 0; have hfz11_1 := kF BK170.out 1; have hfz11_2 := kF BK170.out 2) | (go_at_call 60; (with_reducible refine (r4prime.calls k a0_0 t172 _ A8.out).mono ?_); rintro e w' ⟨rfl, ⟨nd, rfl⟩⟩; (try first | exact ⟨rfl, _, World.drewN_drewN _ _ _⟩ | exact ⟨rfl, _, Eq.trans (World.drewN_drewN _ _ _) (congrArg (World.drewN _) (Nat.add_assoc _ _ _))⟩))))
   go_meet
   case rel => exact ⟨_, (!t172), (by first | rfl | (simp; done) | (simp [*]; done)), H', ⟨by first | omega | exact Nat.le_refl _⟩, ⟨by (with_reducible repeat (first | refine kN ?_ _ | refine kD ?_ | refine kA ?_ _)); exact BK170.out⟩, ⟨by repeat (first | (with_reducible first | exact HB.out | apply bA | apply bN | apply bD | refine bS ?_ GE170.out) | exact HB.out)⟩⟩
 case rest =>
  clear HC2
  try clear p2
  try clear c3
  try clear c5
  try clear c5b0
  try clear c5b1
  try clear hcz11_0
  try clear hcz11_1
  try clear hcz11_2
  try clear hcz6_0
  try clear hcz6_1
  try clear hcz6_2
  try clear hcz9_0
  try clear hcz9_1
  try clear hcz9_2
  try clear hfz11_0
  try clear hfz11_1
  try clear hfz11_2
  try clear hfz6_0
  try clear hfz6_1
  try clear hfz6_2
  try clear hfz9_0
  try clear hfz9_1
  try clear hfz9_2
  obtain ⟨kq, x12_1, rfl, HA, HJ1, BK170, HB⟩ := hcut
  cases kq with
  | zero => exact absurd HA.out (by simp [r4Check.j0])
  | succ kj1 =>
   have H := HA.out
   clear HA
   simp only [r4Check.j0] at H
   by_cases c12 : x12_1 = true
   ·subst c12
    have H1 : (some 1) = some r := by rw [if_pos rfl] at H; exact H
    clear H
    have H := H1
    clear H1
    obtain rfl := Option.some.inj H
    go_wp2
    repeat (go_quiet (fail); try go_wp2)
    go_ret
    exact ⟨by first | rfl | (simp [eN, eS] <;> rfl) | (simp [*, eN, eS] <;> rfl), by repeat (first | (with_reducible first | exact HB.out | apply bA | apply bN | apply bD | refine bS ?_ GE170.out) | exact HB.out)⟩
   ·replace c12 := Bool.eq_false_iff.mpr c12
    subst c12
    have H1 : (if a0_1 = 1 then (if (l0_2.length : Int) = 0 then (some 0) else (some 1)) else (if (l0_2.length : Int) = a0_1 then (r4Check.l0 kj1 0 a0_0 a0_1 l0_2) else (some 1))) = some r := by rw [if_neg (show ¬ (false = true) by decide)] at H; exact H
    clear H
    have H := H1
    clear H1
    by_cases c13 : a0_1 = 1
    ·rw [if_pos c13] at H
     have c13b0 : (a0_1 == 1) = true := beq_iff_eq.mpr c13
     have c13b1 : (a0_1 != 1) = false := bne_eq_false_iff_eq.mpr c13
     clear c13
     by_cases c14 : (l0_2.length : Int) = 0
     ·rw [if_pos c14] at H
      have c14b0 : ((l0_2.length : Int) == 0) = true := beq_iff_eq.mpr c14
      have c14b1 : ((l0_2.length : Int) != 0) = false := bne_eq_false_iff_eq.mpr c14
      clear c14
      obtain rfl := Option.some.inj H
      have hcz15_0 : wc.cell? ⟨gb170, 0, none⟩ = some (.int .i64 a0_0) := (kC BK170.out 0).trans rfl
      have hcz15_1 : wc.cell? ⟨gb170, 1, none⟩ = some (.int .i64 a0_1) := (kC BK170.out 1).trans rfl
      have hcz15_2 : wc.cell? ⟨gb170, 2, none⟩ = some (.slice A0_2 l0_2.length c0_2) := (kC BK170.out 2).trans rfl
      have hfz15_0 := kF BK170.out 0
      have hfz15_1 := kF BK170.out 1
      have hfz15_2 := kF BK170.out 2
      go_wp2
      repeat (go_quiet (fail); try go_wp2)
      go_ret
      exact ⟨by first | rfl | (simp [eN, eS] <;> rfl) | (simp [*, eN, eS] <;> rfl), by repeat (first | (with_reducible first | exact HB.out | apply bA | apply bN | apply bD | refine bS ?_ GE170.out) | exact HB.out)⟩
     ·rw [if_neg c14] at H
      have c14b0 : ((l0_2.length : Int) == 0) = false := beq_eq_false_iff_ne.mpr c14
      have c14b1 : ((l0_2.length : Int) != 0) = true := bne_iff_ne.mpr c14
      have c14b2 : ¬ (l0_2 = []) := fun h_ => c14 (by rw [h_]; rfl)
      obtain rfl := Option.some.inj H
      have hcz16_0 : wc.cell? ⟨gb170, 0, none⟩ = some (.int .i64 a0_0) := (kC BK170.out 0).trans rfl
      have hcz16_1 : wc.cell? ⟨gb170, 1, none⟩ = some (.int .i64 a0_1) := (kC BK170.out 1).trans rfl
      have hcz16_2 : wc.cell? ⟨gb170, 2, none⟩ = some (.slice A0_2 l0_2.length c0_2) := (kC BK170.out 2).trans rfl
      have hfz16_0 := kF BK170.out 0
      have hfz16_1 := kF BK170.out 1
      have hfz16_2 := kF BK170.out 2
      go_wp2
      repeat (go_quiet (fail); try go_wp2)
      go_ret
      exact ⟨by first | rfl | (simp [eN, eS] <;> rfl) | (simp [*, eN, eS] <;> rfl), by repeat (first | (with_reducible first | exact HB.out | apply bA | apply bN | apply bD | refine bS ?_ GE170.out) | exact HB.out)⟩
    ·rw [if_neg c13] at H
     have c13b0 : (a0_1 == 1) = false := beq_eq_false_iff_ne.mpr c13
     have c13b1 : (a0_1 != 1) = true := bne_iff_ne.mpr c13
     by_cases c17 : (l0_2.length : Int) = a0_1
     ·rw [if_pos c17] at H
      have c17b0 : ((l0_2.length : Int) == a0_1) = true := beq_iff_eq.mpr c17
      have c17b1 : ((l0_2.length : Int) != a0_1) = false := bne_eq_false_iff_eq.mpr c17
      clear c17
      have H' := Q9a.mk H
      clear H
      have hcz18_0 : wc.cell? ⟨gb170, 0, none⟩ = some (.int .i64 a0_0) := (kC BK170.out 0).trans rfl
      have hcz18_1 : wc.cell? ⟨gb170, 1, none⟩ = some (.int .i64 a0_1) := (kC BK170.out 1).trans rfl
      have hcz18_2 : wc.cell? ⟨gb170, 2, none⟩ = some (.slice A0_2 l0_2.length c0_2) := (kC BK170.out 2).trans rfl
      have hfz18_0 := kF BK170.out 0
      have hfz18_1 := kF BK170.out 1
      have hfz18_2 := kF BK170.out 2
      go_wp2
      repeat (go_quiet (fail); try go_wp2)
      go_loopg [3] kj1 (fun kq v3 w' => ∃ (x3_2 : Int), v3 = .int .i64 x3_2 ∧ Q9a (r4Check.l0 kq x3_2 a0_0 a0_1 l0_2 = some r) ∧ Q9a (kq ≤ kj1) ∧ Q9a (w'.heap[gb170]? = some (.cells #[.int .i64 a0_0, .int .i64 a0_1, (.slice A0_2 l0_2.length c0_2)] 24 (0, 0))) ∧ Q9a (Below w.heap.size w w'))
      case atStart => exact ⟨(0), (by first | rfl | (simp; done) | (simp [*]; done)), H', ⟨Nat.le_refl _⟩, ⟨by (with_reducible repeat (first | refine kN ?_ _ | refine kD ?_ | refine kA ?_ _)); exact BK170.out⟩, ⟨by repeat (first | (with_reducible first | exact HB.out | apply bA | apply bN | apply bD | refine bS ?_ GE170.out) | exact HB.out)⟩⟩
      case round =>
       clear H'
       try clear c1
       try clear p2
       try clear c3
       try clear c5
       try clear c5b0
       try clear c5b1
       try clear c12
       try clear c13
       try clear c13b0
       try clear c13b1
       try clear c14
       try clear c14b0
       try clear c14b1
       try clear c14b2
       try clear c17
       try clear c17b0
       try clear c17b1
       try clear hcz11_0
       try clear hcz11_1
       try clear hcz11_2
       try clear hcz15_0
       try clear hcz15_1
       try clear hcz15_2
       try clear hcz16_0
       try clear hcz16_1
       try clear hcz16_2
       try clear hcz18_0
       try clear hcz18_1
       try clear hcz18_2
       try clear hcz6_0
       try clear hcz6_1
       try clear hcz6_2
       try clear hcz9_0
       try clear hcz9_1
       try clear hcz9_2
       try clear hfz11_0
       try clear hfz11_1
       try clear hfz11_2
       try clear hfz15_0
       try clear hfz15_1
       try clear hfz15_2
       try clear hfz16_0
       try clear hfz16_1
       try clear hfz16_2
       try clear hfz18_0
       try clear hfz18_1
       try clear hfz18_2
       try clear hfz6_0
       try clear hfz6_1
       try clear hfz6_2
       try clear hfz9_0
       try clear hfz9_1
       try clear hfz9_2
       try clear p2
       obtain ⟨x3_2, rfl, HA, HK2, BK170, HB⟩ := hrel
       cases gk with
       | zero => exact absurd HA.out (by simp [r4Check.l0])
       | succ k2 =>
        have H := HA.out
        clear HA
        simp only [r4Check.l0] at H
        by_cases c19 : x3_2 < a0_1
        ·rw [if_pos c19] at H
         have c19b0 : decide (x3_2 < a0_1) = true := decide_eq_true c19
         clear c19
         by_cases c20 : 0 ≤ x3_2
         ·rw [if_pos c20] at H
          have c20b0 : decide (0 ≤ x3_2) = true := decide_eq_true c20
          clear c20
          by_cases c21 : x3_2 < (l0_2.length : Int)
          ·rw [if_pos c21] at H
           have c21b0 : decide (x3_2 < (l0_2.length : Int)) = true := decide_eq_true c21
           clear c21
           by_cases c22 : (rd l0_2 x3_2) < 0
           ·rw [if_pos c22] at H
            have c22b0 : decide ((rd l0_2 x3_2) < 0) = true := decide_eq_true c22
            clear c22
            obtain rfl := Option.some.inj H
            have hcz23_0 : wr.cell? ⟨gb170, 0, none⟩ = some (.int .i64 a0_0) := (kC BK170.out 0).trans rfl
            have hcz23_1 : wr.cell? ⟨gb170, 1, none⟩ = some (.int .i64 a0_1) := (kC BK170.out 1).trans rfl
            have hcz23_2 : wr.cell? ⟨gb170, 2, none⟩ = some (.slice A0_2 l0_2.length c0_2) := (kC BK170.out 2).trans rfl
            have hfz23_0 := kF BK170.out 0
            have hfz23_1 := kF BK170.out 1
            have hfz23_2 := kF BK170.out 2
            have p173 : 0 ≤ (x3_2 : Int) := of_decide_eq_true (by first | (with_reducible assumption) | assumption)
            have q173 : x3_2 < (l0_2.length : Int) := of_decide_eq_true (by first | (with_reducible assumption) | assumption)
            obtain ⟨ad173, e173, hx173_0⟩ := Kd.at_int HR0_2.out x3_2 p173 q173
            cases e173
            replace hx173_0 := (HB.out.cell (World.block_lt_of_cell? w _ hx173_0)).trans hx173_0
            replace p173 := eq_true p173
            replace q173 := eq_true q173
            go_wp2
            repeat (go_quiet (fail); try go_wp2)
            go_ret
            exact ⟨by first | rfl | (simp [eN, eS] <;> rfl) | (simp [*, eN, eS] <;> rfl), by repeat (first | (with_reducible first | exact HB.out | apply bA | apply bN | apply bD | refine bS ?_ GE170.out) | exact HB.out)⟩
           ·rw [if_neg c22] at H
            have c22b0 : decide ((rd l0_2 x3_2) < 0) = false := decide_eq_false c22
            clear c22
            by_cases c24 : (rd l0_2 x3_2) ≥ a0_0
            ·rw [if_pos c24] at H
             have c24b0 : decide (a0_0 ≤ (rd l0_2 x3_2)) = true := decide_eq_true c24
             clear c24
             obtain rfl := Option.some.inj H
             have hcz25_0 : wr.cell? ⟨gb170, 0, none⟩ = some (.int .i64 a0_0) := (kC BK170.out 0).trans rfl
             have hcz25_1 : wr.cell? ⟨gb170, 1, none⟩ = some (.int .i64 a0_1) := (kC BK170.out 1).trans rfl
             have hcz25_2 : wr.cell? ⟨gb170, 2, none⟩ = some (.slice A0_2 l0_2.length c0_2) := (kC BK170.out 2).trans rfl
             have hfz25_0 := kF BK170.out 0
             have hfz25_1 := kF BK170.out 1
             have hfz25_2 := kF BK170.out 2
             have p173 : 0 ≤ (x3_2 : Int) := of_decide_eq_true (by first | (with_reducible assumption) | assumption)
             have q173 : x3_2 < (l0_2.length : Int) := of_decide_eq_true (by first | (with_reducible assumption) | assumption)
             obtain ⟨ad173, e173, hx173_0⟩ := Kd.at_int HR0_2.out x3_2 p173 q173
             cases e173
             replace hx173_0 := (HB.out.cell (World.block_lt_of_cell? w _ hx173_0)).trans hx173_0
             replace p173 := eq_true p173
             replace q173 := eq_true q173
             have p174 : 0 ≤ (x3_2 : Int) := of_decide_eq_true (by first | (with_reducible assumption) | assumption)
             have q174 : x3_2 < (l0_2.length : Int) := of_decide_eq_true (by first | (with_reducible assumption) | assumption)
             obtain ⟨ad174, e174, hx174_0⟩ := Kd.at_int HR0_2.out x3_2 p174 q174
             obtain rfl : ad173 = ad174 := (by injection e174)
             replace hx174_0 := (HB.out.cell (World.block_lt_of_cell? w _ hx174_0)).trans hx174_0
             replace p174 := eq_true p174
             replace q174 := eq_true q174
             go_wp2
             repeat (go_quiet (fail); try go_wp2)
             go_ret
             exact ⟨by first | rfl | (simp [eN, eS] <;> rfl) | (simp [*, eN, eS] <;> rfl), by repeat (first | (with_reducible first | exact HB.out | apply bA | apply bN | apply bD | refine bS ?_ GE170.out) | exact HB.out)⟩
            ·rw [if_neg c24] at H
             have c24b0 : decide (a0_0 ≤ (rd l0_2 x3_2)) = false := decide_eq_false c24
             clear c24
             have H' := Q9a.mk H
             clear H
             have hcz26_0 : wr.cell? ⟨gb170, 0, none⟩ = some (.int .i64 a0_0) := (kC BK170.out 0).trans rfl
             have hcz26_1 : wr.cell? ⟨gb170, 1, none⟩ = some (.int .i64 a0_1) := (kC BK170.out 1).trans rfl
             have hcz26_2 : wr.cell? ⟨gb170, 2, none⟩ = some (.slice A0_2 l0_2.length c0_2) := (kC BK170.out 2).trans rfl
             have hfz26_0 := kF BK170.out 0
             have hfz26_1 := kF BK170.out 1
             have hfz26_2 := kF BK170.out 2
             have p173 : 0 ≤ (x3_2 : Int) := of_decide_eq_true (by first | (with_reducible assumption) | assumption)
             have q173 : x3_2 < (l0_2.length : Int) := of_decide_eq_true (by first | (with_reducible assumption) | assumption)
             obtain ⟨ad173, e173, hx173_0⟩ := Kd.at_int HR0_2.out x3_2 p173 q173
             cases e173
             replace hx173_0 := (HB.out.cell (World.block_lt_of_cell? w _ hx173_0)).trans hx173_0
             replace p173 := eq_true p173
             replace q173 := eq_true q173
             have p174 : 0 ≤ (x3_2 : Int) := of_decide_eq_true (by first | (with_reducible assumption) | assumption)
             have q174 : x3_2 < (l0_2.length : Int) := of_decide_eq_true (by first | (with_reducible assumption) | assumption)
             obtain ⟨ad174, e174, hx174_0⟩ := Kd.at_int HR0_2.out x3_2 p174 q174
             obtain rfl : ad173 = ad174 := (by injection e174)
             replace hx174_0 := (HB.out.cell (World.block_lt_of_cell? w _ hx174_0)).trans hx174_0
             replace p174 := eq_true p174
             replace q174 := eq_true q174
             go_wp2
             repeat (go_quiet (fail); try go_wp2)
             go_roundg k2
             case measure => have := HJ1.out; have := HK2.out; omega
             case rel => exact ⟨(wrap64 (x3_2 + 1)), (by first | rfl | (simp; done) | (simp [*]; done)), H', ⟨by have := HJ1.out; have := HK2.out; omega⟩, ⟨by (with_reducible repeat (first | refine kN ?_ _ | refine kD ?_ | refine kA ?_ _)); exact BK170.out⟩, ⟨by repeat (first | (with_reducible first | exact HB.out | apply bA | apply bN | apply bD | refine bS ?_ GE170.out) | exact HB.out)⟩⟩
          ·rw [if_neg c21] at H
           exact absurd H (by simp)
         ·rw [if_neg c20] at H
          exact absurd H (by simp)
        ·rw [if_neg c19] at H
         have c19b0 : decide (x3_2 < a0_1) = false := decide_eq_false c19
         clear c19
         replace H := Option.bind_eq_some_iff.mp H
         obtain ⟨t175, A270, H⟩ := H
         replace H : (if t175 = true then (some 0) else (some 1)) = some r := H
         have A27 := Q9a.mk A270
         clear A270
         by_cases c28 : t175 = true
         ·subst c28
          have H1 : (some 0) = some r := by rw [if_pos rfl] at H; exact H
          clear H
          have H := H1
          clear H1
          obtain rfl := Option.some.inj H
          have hcz29_0 : wr.cell? ⟨gb170, 0, none⟩ = some (.int .i64 a0_0) := (kC BK170.out 0).trans rfl
          have hcz29_1 : wr.cell? ⟨gb170, 1, none⟩ = some (.int .i64 a0_1) := (kC BK170.out 1).trans rfl
          have hcz29_2 : wr.cell? ⟨gb170, 2, none⟩ = some (.slice A0_2 l0_2.length c0_2) := (kC BK170.out 2).trans rfl
          have hfz29_0 := kF BK170.out 0
          have hfz29_1 := kF BK170.out 1
          have hfz29_2 := kF BK170.out 2
          go_wp2_with (first | (go_at_call 61; (with_reducible refine (r4irreducible.calls k2 _ _ l0_2 a0_0 true _ ?side1 ?side2 A27.out).mono ?_); (case side1 => repeat (first | exact (Kd.C_below HR0_2.out HB.out) | (with_reducible refine Kd.C_alloc ?_ _) | (with_reducible refine Kd.C_drewN ?_ _) | (with_reducible refine Kd.C_drew ?_))); (case side2 => exact HC0_2.out); rintro e w30 ⟨rfl, hb⟩; have n0_ := Q9a.mk (kB (g := gb170) (o := .cells #[.int .i64 a0_0, .int .i64 a0_1, .slice A0_2 l0_2.length c0_2] 24 (0, 0)) (by (with_reducible repeat (first | refine kN ?_ _ | refine kD ?_ | refine kA ?_ _)); exact BK170.out) hb); have n1_ := Q9a.mk (bP (by repeat (first | (with_reducible first | exact HB.out | apply bA | apply bN | apply bD | refine bS ?_ GE170.out) | exact HB.out)) hb); clear BK170; clear HB; have BK170 := n0_; have HB := n1_; clear n0_ n1_; (try clear hb); (try clear hb2); (try clear hk); (try clear hi)))
          repeat (go_quiet (first | (go_at_call 61; (with_reducible refine (r4irreducible.calls k2 _ _ l0_2 a0_0 true _ ?side1 ?side2 A27.out).mono ?_); (case side1 => repeat (first | exact (Kd.C_below HR0_2.out HB.out) | (with_reducible refine Kd.C_alloc ?_ _) | (with_reducible refine Kd.C_drewN ?_ _) | (with_reducible refine Kd.C_drew ?_))); (case side2 => exact HC0_2.out); rintro e w30 ⟨rfl, hb⟩; have n0_ := Q9a.mk (kB (g := gb170) (o := .cells #[.int .i64 a0_0, .int .i64 a0_1, .slice A0_2 l0_2.length c0_2] 24 (0, 0)) (by (with_reducible repeat (first | refine kN ?_ _ | refine kD ?_ | refine kA ?_ _)); exact BK170.out) hb); have n1_ := Q9a.mk (bP (by repeat (first | (with_reducible first | exact HB.out | apply bA | apply bN | apply bD | refine bS ?_ GE170.out) | exact HB.out)) hb); clear BK170; clear HB; have BK170 := n0_; have HB := n1_; clear n0_ n1_; (try clear hb); (try clear hb2); (try clear hk); (try clear hi))); try go_wp2_with (first | (go_at_call 61; (with_reducible refine (r4irreducible.calls k2 _ _ l0_2 a0_0 true _ ?side1 ?side2 A27.out).mono ?_); (case side1 => repeat (first | exact (Kd.C_below HR0_2.out HB.out) | (with_reducible refine Kd.C_alloc ?_ _) | (with_reducible refine Kd.C_drewN ?_ _) | (with_reducible refine Kd.C_drew ?_))); (case side2 => exact HC0_2.out); rintro e w30 ⟨rfl, hb⟩; have n0_ := Q9a.mk (kB (g := gb170) (o := .cells #[.int .i64 a0_0, .int .i64 a0_1, .slice A0_2 l0_2.length c0_2] 24 (0, 0)) (by (with_reducible repeat (first | refine kN ?_ _ | refine kD ?_ | refine kA ?_ _)); exact BK170.out) hb); have n1_ := Q9a.mk (bP (by repeat (first | (with_reducible first | exact HB.out | apply bA | apply bN | apply bD | refine bS ?_ GE170.out) | exact HB.out)) hb); clear BK170; clear HB; have BK170 := n0_; have HB := n1_; clear n0_ n1_; (try clear hb); (try clear hb2); (try clear hk); (try clear hi))))
          go_ret
          exact ⟨by first | rfl | (simp [eN, eS] <;> rfl) | (simp [*, eN, eS] <;> rfl), by repeat (first | (with_reducible first | exact HB.out | apply bA | apply bN | apply bD | refine bS ?_ GE170.out) | exact HB.out)⟩
         ·replace c28 := Bool.eq_false_iff.mpr c28
          subst c28
          have H1 : (some 1) = some r := by rw [if_neg (show ¬ (false = true) by decide)] at H; exact H
          clear H
          have H := H1
          clear H1
          obtain rfl := Option.some.inj H
          have hcz31_0 : wr.cell? ⟨gb170, 0, none⟩ = some (.int .i64 a0_0) := (kC BK170.out 0).trans rfl
          have hcz31_1 : wr.cell? ⟨gb170, 1, none⟩ = some (.int .i64 a0_1) := (kC BK170.out 1).trans rfl
          have hcz31_2 : wr.cell? ⟨gb170, 2, none⟩ = some (.slice A0_2 l0_2.length c0_2) := (kC BK170.out 2).trans rfl
          have hfz31_0 := kF BK170.out 0
          have hfz31_1 := kF BK170.out 1
          have hfz31_2 := kF BK170.out 2
          go_wp2_with (first | (go_at_call 61; (with_reducible refine (r4irreducible.calls k2 _ _ l0_2 a0_0 false _ ?side1 ?side2 A27.out).mono ?_); (case side1 => repeat (first | exact (Kd.C_below HR0_2.out HB.out) | (with_reducible refine Kd.C_alloc ?_ _) | (with_reducible refine Kd.C_drewN ?_ _) | (with_reducible refine Kd.C_drew ?_))); (case side2 => exact HC0_2.out); rintro e w32 ⟨rfl, hb⟩; have n0_ := Q9a.mk (kB (g := gb170) (o := .cells #[.int .i64 a0_0, .int .i64 a0_1, .slice A0_2 l0_2.length c0_2] 24 (0, 0)) (by (with_reducible repeat (first | refine kN ?_ _ | refine kD ?_ | refine kA ?_ _)); exact BK170.out) hb); have n1_ := Q9a.mk (bP (by repeat (first | (with_reducible first | exact HB.out | apply bA | apply bN | apply bD | refine bS ?_ GE170.out) | exact HB.out)) hb); clear BK170; clear HB; have BK170 := n0_; have HB := n1_; clear n0_ n1_; (try clear hb); (try clear hb2); (try clear hk); (try clear hi)))
          repeat (go_quiet (first | (go_at_call 61; (with_reducible refine (r4irreducible.calls k2 _ _ l0_2 a0_0 false _ ?side1 ?side2 A27.out).mono ?_); (case side1 => repeat (first | exact (Kd.C_below HR0_2.out HB.out) | (with_reducible refine Kd.C_alloc ?_ _) | (with_reducible refine Kd.C_drewN ?_ _) | (with_reducible refine Kd.C_drew ?_))); (case side2 => exact HC0_2.out); rintro e w32 ⟨rfl, hb⟩; have n0_ := Q9a.mk (kB (g := gb170) (o := .cells #[.int .i64 a0_0, .int .i64 a0_1, .slice A0_2 l0_2.length c0_2] 24 (0, 0)) (by (with_reducible repeat (first | refine kN ?_ _ | refine kD ?_ | refine kA ?_ _)); exact BK170.out) hb); have n1_ := Q9a.mk (bP (by repeat (first | (with_reducible first | exact HB.out | apply bA | apply bN | apply bD | refine bS ?_ GE170.out) | exact HB.out)) hb); clear BK170; clear HB; have BK170 := n0_; have HB := n1_; clear n0_ n1_; (try clear hb); (try clear hb2); (try clear hk); (try clear hi))); try go_wp2_with (first | (go_at_call 61; (with_reducible refine (r4irreducible.calls k2 _ _ l0_2 a0_0 false _ ?side1 ?side2 A27.out).mono ?_); (case side1 => repeat (first | exact (Kd.C_below HR0_2.out HB.out) | (with_reducible refine Kd.C_alloc ?_ _) | (with_reducible refine Kd.C_drewN ?_ _) | (with_reducible refine Kd.C_drew ?_))); (case side2 => exact HC0_2.out); rintro e w32 ⟨rfl, hb⟩; have n0_ := Q9a.mk (kB (g := gb170) (o := .cells #[.int .i64 a0_0, .int .i64 a0_1, .slice A0_2 l0_2.length c0_2] 24 (0, 0)) (by (with_reducible repeat (first | refine kN ?_ _ | refine kD ?_ | refine kA ?_ _)); exact BK170.out) hb); have n1_ := Q9a.mk (bP (by repeat (first | (with_reducible first | exact HB.out | apply bA | apply bN | apply bD | refine bS ?_ GE170.out) | exact HB.out)) hb); clear BK170; clear HB; have BK170 := n0_; have HB := n1_; clear n0_ n1_; (try clear hb); (try clear hb2); (try clear hk); (try clear hi))))
          go_ret
          exact ⟨by first | rfl | (simp [eN, eS] <;> rfl) | (simp [*, eN, eS] <;> rfl), by repeat (first | (with_reducible first | exact HB.out | apply bA | apply bN | apply bD | refine bS ?_ GE170.out) | exact HB.out)⟩
     ·rw [if_neg c17] at H
      have c17b0 : ((l0_2.length : Int) == a0_1) = false := beq_eq_false_iff_ne.mpr c17
      have c17b1 : ((l0_2.length : Int) != a0_1) = true := bne_iff_ne.mpr c17
      obtain rfl := Option.some.inj H
      have hcz33_0 : wc.cell? ⟨gb170, 0, none⟩ = some (.int .i64 a0_0) := (kC BK170.out 0).trans rfl
      have hcz33_1 : wc.cell? ⟨gb170, 1, none⟩ = some (.int .i64 a0_1) := (kC BK170.out 1).trans rfl
      have hcz33_2 : wc.cell? ⟨gb170, 2, none⟩ = some (.slice A0_2 l0_2.length c0_2) := (kC BK170.out 2).trans rfl
      have hfz33_0 := kF BK170.out 0
      have hfz33_1 := kF BK170.out 1
      have hfz33_2 := kF BK170.out 2
      go_wp2
      repeat (go_quiet (fail); try go_wp2)
      go_ret
      exact ⟨by first | rfl | (simp [eN, eS] <;> rfl) | (simp [*, eN, eS] <;> rfl), by repeat (first | (with_reducible first | exact HB.out | apply bA | apply bN | apply bD | refine bS ?_ GE170.out) | exact HB.out)⟩
def slices_Equal_int_int.l0 : Nat → List Int → List Int → Int → Int → Option (Bool)
 | 0, _, _, _, _ => none
 | k + 1, x0, x1, x12, x13 => if x13 < x12 then (if 0 ≤ x13 then (if x13 < (x0.length : Int) then (if x13 < (x1.length : Int) then (if (rd x0 x13) = (rd x1 x13) then (slices_Equal_int_int.l0 k x0 x1 x12 (wrap64 (x13 + 1))) else (some false)) else (none)) else (none)) else (none)) else (some true)
def slices_Equal_int_int.f (k : Nat) (l0 : List Int) (l1 : List Int) : Option (Bool) := if (l0.length : Int) = (l1.length : Int) then (slices_Equal_int_int.l0 k l0 l1 (l0.length : Int) 0) else (some false)
def number_in.f (a0 : Int) (a1 : Int) : Option (Bool) := if a0 ≥ a1 then (some (decide (a0 ≤ 2147483647))) else (some false)
set_option maxHeartbeats 8000000 in
set_option maxRecDepth 100000 in
theorem number_in.calls (a0 : Int) (a1 : Int) (r : Bool) (w : World) (h : number_in.f a0 a1 = some r) :
  Calls Try.prog 69 #[.int .i64 a0, .int .i64 a1] w fun e w' => e = .returned (.bool r) ∧ Drawn0 w w' := by
 have H : (if a0 ≥ a1 then (some (decide (a0 ≤ 2147483647))) else (some false)) = some r := h
 clear h
 by_cases c3 : a0 ≥ a1
 ·rw [if_pos c3] at H
  have c3b0 : decide (a1 ≤ a0) = true := decide_eq_true c3
  clear c3
  obtain rfl := Option.some.inj H
  go_enter Try.func69, Try.ntmps69
  go_wp2
  go_ret
  exact ⟨by first | rfl | (simp; done) | (simp [*]; done), by repeat (first | exact Drawn0.refl _ | apply Drawn0.step)⟩
 ·rw [if_neg c3] at H
  have c3b0 : decide (a1 ≤ a0) = false := decide_eq_false c3
  clear c3
  obtain rfl := Option.some.inj H
  go_enter Try.func69, Try.ntmps69
  go_wp2
  go_ret
  exact ⟨by first | rfl | (simp; done) | (simp [*]; done), by repeat (first | exact Drawn0.refl _ | apply Drawn0.step)⟩
def r4Is.f (k : Nat) (a0_0 : Int) (a0_1 : Int) (l0_2 : List Int) (a1 : Int) : Option (Bool) := if a1 ≥ 0 then ((r4Order.f k a0_0 a0_1 l0_2).bind fun t186 => (some (decide (a1 < t186)))) else (some false)
set_option maxHeartbeats 8000000 in
set_option maxRecDepth 100000 in
theorem r4Is.calls (k : Nat) (a0_0 : Int) (a0_1 : Int) (A0_2 : Option Addr) (c0_2 : Nat) (l0_2 : List Int) (a1 : Int) (r : Bool) (w : World) (hr0_2 : Kd.C (Kd.int .i64) w A0_2 l0_2.length l0_2) (hc0_2 : l0_2.length ≤ c0_2) (h : r4Is.f k a0_0 a0_1 l0_2 a1 = some r) :
  Calls Try.prog 50 #[.agg #[.int .i64 a0_0, .int .i64 a0_1, .slice A0_2 l0_2.length c0_2], .int .i64 a1] w fun e w' => e = .returned (.bool r) ∧ Below w.heap.size w w' := by
 have hu24 := Try.underlying24
 have HR0_2 := Q9a.mk hr0_2
 have HC0_2 := Q9a.mk hc0_2
 clear hr0_2 hc0_2
 have HB := Q9a.mk (Below.refl w.heap.size w)
 have H : (if a1 ≥ 0 then ((r4Order.f k a0_0 a0_1 l0_2).bind fun t186 => (some (decide (a1 < t186)))) else (some false)) = some r := h
 clear h
 by_cases c3 : a1 ≥ 0
 ·rw [if_pos c3] at H
  have c3b0 : decide (0 ≤ a1) = true := decide_eq_true c3
  clear c3
  replace H := Option.bind_eq_some_iff.mp H
  obtain ⟨t186, A40, H⟩ := H
  replace H : (some (decide (a1 < t186))) = some r := H
  have A4 := Q9a.mk A40
  clear A40
  obtain rfl := Option.some.inj H
  go_enter Try.func50, Try.ntmps50
  go_wp2_with (first | ((with_reducible refine gate_dst (N := 2) rfl ?_); refine box_event ?hg (N := 2) ?hd (cs := #[.int .i64 a0_0, .int .i64 a0_1, .slice A0_2 l0_2.length c0_2]) (t := 24) ?hr ?_; (case hd => rfl); (case hg => rfl); (case hr => first | (go_simp; done) | (go_simp; rfl)); intro gb185 hg w5 hbox hb; have n0_ := Q9a.mk (bP (by repeat (first | (with_reducible first | exact HB.out | apply bA | apply bN | apply bD) | exact HB.out)) hb); have n1_ := Q9a.mk (hbox); have n2_ := Q9a.mk ((by rw [hg]; exact (bZ (by repeat (first | (with_reducible first | exact HB.out | apply bA | apply bN | apply bD) | exact HB.out))) : w.heap.size ≤ gb185)); have n3_ := Q9a.mk ((by rw [hg]; exact (bZ (by repeat (first | (with_reducible first | exact HB.out | apply bA | apply bN | apply bD) | exact HB.out))) : w.heap.size ≤ gb185)); clear HB; have HB := n0_; have BK185 := n1_; have GW185 := n2_; have GE185 := n3_; clear n0_ n1_ n2_ n3_; clear hb hbox hg; have hcz6_0 : w5.cell? ⟨gb185, 0, none⟩ = some (.int .i64 a0_0) := (kC BK185.out 0).trans rfl; have hcz6_1 : w5.cell? ⟨gb185, 1, none⟩ = some (.int .i64 a0_1) := (kC BK185.out 1).trans rfl; have hcz6_2 : w5.cell? ⟨gb185, 2, none⟩ = some (.slice A0_2 l0_2.length c0_2) := (kC BK185.out 2).trans rfl; have hfz6_0 := kF BK185.out 0; have hfz6_1 := kF BK185.out 1; have hfz6_2 := kF BK185.out 2) | (go_at_call 33; (with_reducible refine (r4Order.calls k a0_0 a0_1 _ _ l0_2 t186 _ ?side1 ?side2 A4.out).mono ?_); (case side1 => repeat (first | exact (Kd.C_below HR0_2.out HB.out) | (with_reducible refine Kd.C_alloc ?_ _) | (with_reducible refine Kd.C_drewN ?_ _) | (with_reducible refine Kd.C_drew ?_))); (case side2 => exact HC0_2.out); rintro e w7 ⟨rfl, hb⟩; have n0_ := Q9a.mk (kB (g := gb185) (o := .cells #[.int .i64 a0_0, .int .i64 a0_1, .slice A0_2 l0_2.length c0_2] 24 (0, 0)) (by (with_reducible repeat (first | refine kN ?_ _ | refine kD ?_ | refine kA ?_ _)); exact BK185.out) hb); have n1_ := Q9a.mk (bP (by repeat (first | (with_reducible first | exact HB.out | apply bA | apply bN | apply bD | refine bS ?_ GE185.out) | exact HB.out)) hb); clear BK185; clear HB; have BK185 := n0_; have HB := n1_; clear n0_ n1_; (try clear hb); (try clear hb2); (try clear hk); (try clear hi)))
  go_ret
  exact ⟨by first | rfl | (simp [eN, eS] <;> rfl) | (simp [*, eN, eS] <;> rfl), by repeat (first | (with_reducible first | exact HB.out | apply bA | apply bN | apply bD | refine bS ?_ GE185.out) | exact HB.out)⟩
 ·rw [if_neg c3] at H
  have c3b0 : decide (0 ≤ a1) = false := decide_eq_false c3
  clear c3
  obtain rfl := Option.some.inj H
  go_enter Try.func50, Try.ntmps50
  go_wp2_with (first | ((with_reducible refine gate_dst (N := 2) rfl ?_); refine box_event ?hg (N := 2) ?hd (cs := #[.int .i64 a0_0, .int .i64 a0_1, .slice A0_2 l0_2.length c0_2]) (t := 24) ?hr ?_; (case hd => rfl); (case hg => rfl); (case hr => first | (go_simp; done) | (go_simp; rfl)); intro gb185 hg w8 hbox hb; have n0_ := Q9a.mk (bP (by repeat (first | (with_reducible first | exact HB.out | apply bA | apply bN | apply bD) | exact HB.out)) hb); have n1_ := Q9a.mk (hbox); have n2_ := Q9a.mk ((by rw [hg]; exact (bZ (by repeat (first | (with_reducible first | exact HB.out | apply bA | apply bN | apply bD) | exact HB.out))) : w.heap.size ≤ gb185)); have n3_ := Q9a.mk ((by rw [hg]; exact (bZ (by repeat (first | (with_reducible first | exact HB.out | apply bA | apply bN | apply bD) | exact HB.out))) : w.heap.size ≤ gb185)); clear HB; have HB := n0_; have BK185 := n1_; have GW185 := n2_; have GE185 := n3_; clear n0_ n1_ n2_ n3_; clear hb hbox hg))
  go_ret
  exact ⟨by first | rfl | (simp [eN, eS] <;> rfl) | (simp [*, eN, eS] <;> rfl), by repeat (first | (with_reducible first | exact HB.out | apply bA | apply bN | apply bD | refine bS ?_ GE185.out) | exact HB.out)⟩
def r4In.f (k : Nat) (a0_0 : Int) (a0_1 : Int) (l0_2 : List Int) (a1 : Int) : Option (Int) := (r4Is.f k a0_0 a0_1 l0_2 a1).bind fun t188 => (if t188 = true then (some a1) else (some 0))
set_option maxHeartbeats 8000000 in
set_option maxRecDepth 100000 in
theorem r4In.calls (k : Nat) (a0_0 : Int) (a0_1 : Int) (A0_2 : Option Addr) (c0_2 : Nat) (l0_2 : List Int) (a1 : Int) (r : Int) (w : World) (hr0_2 : Kd.C (Kd.int .i64) w A0_2 l0_2.length l0_2) (hc0_2 : l0_2.length ≤ c0_2) (h : r4In.f k a0_0 a0_1 l0_2 a1 = some r) :
  Calls Try.prog 26 #[.agg #[.int .i64 a0_0, .int .i64 a0_1, .slice A0_2 l0_2.length c0_2], .int .i64 a1] w fun e w' => e = .returned (.int .i64 r) ∧ Below w.heap.size w w' := by
 have hu24 := Try.underlying24
 have HR0_2 := Q9a.mk hr0_2
 have HC0_2 := Q9a.mk hc0_2
 clear hr0_2 hc0_2
 have HB := Q9a.mk (Below.refl w.heap.size w)
 have H : ((r4Is.f k a0_0 a0_1 l0_2 a1).bind fun t188 => (if t188 = true then (some a1) else (some 0))) = some r := h
 clear h
 replace H := Option.bind_eq_some_iff.mp H
 obtain ⟨t188, A30, H⟩ := H
 replace H : (if t188 = true then (some a1) else (some 0)) = some r := H
 have A3 := Q9a.mk A30
 clear A30
 by_cases c4 : t188 = true
 ·subst c4
  have H1 : (some a1) = some r := by rw [if_pos rfl] at H; exact H
  clear H
  have H := H1
  clear H1
  obtain rfl := Option.some.inj H
  go_enter Try.func26, Try.ntmps26
  go_wp2_with (first | ((with_reducible refine gate_dst (N := 2) rfl ?_); refine box_event ?hg (N := 2) ?hd (cs := #[.int .i64 a0_0, .int .i64 a0_1, .slice A0_2 l0_2.length c0_2]) (t := 24) ?hr ?_; (case hd => rfl); (case hg => rfl); (case hr => first | (go_simp; done) | (go_simp; rfl)); intro gb187 hg w5 hbox hb; have n0_ := Q9a.mk (bP (by repeat (first | (with_reducible first | exact HB.out | apply bA | apply bN | apply bD) | exact HB.out)) hb); have n1_ := Q9a.mk (hbox); have n2_ := Q9a.mk ((by rw [hg]; exact (bZ (by repeat (first | (with_reducible first | exact HB.out | apply bA | apply bN | apply bD) | exact HB.out))) : w.heap.size ≤ gb187)); have n3_ := Q9a.mk ((by rw [hg]; exact (bZ (by repeat (first | (with_reducible first | exact HB.out | apply bA | apply bN | apply bD) | exact HB.out))) : w.heap.size ≤ gb187)); clear HB; have HB := n0_; have BK187 := n1_; have GW187 := n2_; have GE187 := n3_; clear n0_ n1_ n2_ n3_; clear hb hbox hg; have hcz6_0 : w5.cell? ⟨gb187, 0, none⟩ = some (.int .i64 a0_0) := (kC BK187.out 0).trans rfl; have hcz6_1 : w5.cell? ⟨gb187, 1, none⟩ = some (.int .i64 a0_1) := (kC BK187.out 1).trans rfl; have hcz6_2 : w5.cell? ⟨gb187, 2, none⟩ = some (.slice A0_2 l0_2.length c0_2) := (kC BK187.out 2).trans rfl; have hfz6_0 := kF BK187.out 0; have hfz6_1 := kF BK187.out 1; have hfz6_2 := kF BK187.out 2) | ((with_reducible refine gate_callee (f := 50) rfl ?_); refine goesL_ (some 7) rfl rfl Try.func50 (by kernel_rfl) rfl #[.agg #[.int .i64 a0_0, .int .i64 a0_1, .slice A0_2 l0_2.length c0_2], .int .i64 a1] rfl (by (try simp only [List.map_toArray, List.map_cons, List.map_nil]); first | done | rfl | (simp only [List.length_drop, List.length_take]; rfl)) ?_; (with_reducible refine (r4Is.calls k a0_0 a0_1 _ _ l0_2 a1 true _ ?side1 ?side2 A3.out).mono ?_); (case side1 => repeat (first | exact (Kd.C_below HR0_2.out HB.out) | (with_reducible refine Kd.C_alloc ?_ _) | (with_reducible refine Kd.C_drewN ?_ _) | (with_reducible refine Kd.C_drew ?_))); (case side2 => exact HC0_2.out); rintro e w7 ⟨rfl, hb⟩; refine ⟨_, rfl, ?_⟩; have n0_ := Q9a.mk (kB (g := gb187) (o := .cells #[.int .i64 a0_0, .int .i64 a0_1, .slice A0_2 l0_2.length c0_2] 24 (0, 0)) (by (with_reducible repeat (first | refine kN ?_ _ | refine kD ?_ | refine kA ?_ _)); exact BK187.out) hb); have n1_ := Q9a.mk (bP (by repeat (first | (with_reducible first | exact HB.out | apply bA | apply bN | apply bD | refine bS ?_ GE187.out) | exact HB.out)) hb); clear BK187; clear HB; have BK187 := n0_; have HB := n1_; clear n0_ n1_; (try clear hb); (try clear hb2); (try clear hk); (try clear hi)))
  go_ret
  exact ⟨by first | rfl | (simp [eN, eS] <;> rfl) | (simp [*, eN, eS] <;> rfl), by repeat (first | (with_reducible first | exact HB.out | apply bA | apply bN | apply bD | refine bS ?_ GE187.out) | exact HB.out)⟩
 ·replace c4 := Bool.eq_false_iff.mpr c4
  subst c4
  have H1 : (some 0) = some r := by rw [if_neg (show ¬ (false = true) by decide)] at H; exact H
  clear H
  have H := H1
  clear H1
  obtain rfl := Option.some.inj H
  go_enter Try.func26, Try.ntmps26
  go_wp2_with (first | ((with_reducible refine gate_dst (N := 2) rfl ?_); refine box_event ?hg (N := 2) ?hd (cs := #[.int .i64 a0_0, .int .i64 a0_1, .slice A0_2 l0_2.length c0_2]) (t := 24) ?hr ?_; (case hd => rfl); (case hg => rfl); (case hr => first | (go_simp; done) | (go_simp; rfl)); intro gb187 hg w8 hbox hb; have n0_ := Q9a.mk (bP (by repeat (first | (with_reducible first | exact HB.out | apply bA | apply bN | apply bD) | exact HB.out)) hb); have n1_ := Q9a.mk (hbox); have n2_ := Q9a.mk ((by rw [hg]; exact (bZ (by repeat (first | (with_reducible first | exact HB.out | apply bA | apply bN | apply bD) | exact HB.out))) : w.heap.size ≤ gb187)); have n3_ := Q9a.mk ((by rw [hg]; exact (bZ (by repeat (first | (with_reducible first | exact HB.out | apply bA | apply bN | apply bD) | exact HB.out))) : w.heap.size ≤ gb187)); clear HB; have HB := n0_; have BK187 := n1_; have GW187 := n2_; have GE187 := n3_; clear n0_ n1_ n2_ n3_; clear hb hbox hg; have hcz9_0 : w8.cell? ⟨gb187, 0, none⟩ = some (.int .i64 a0_0) := (kC BK187.out 0).trans rfl; have hcz9_1 : w8.cell? ⟨gb187, 1, none⟩ = some (.int .i64 a0_1) := (kC BK187.out 1).trans rfl; have hcz9_2 : w8.cell? ⟨gb187, 2, none⟩ = some (.slice A0_2 l0_2.length c0_2) := (kC BK187.out 2).trans rfl; have hfz9_0 := kF BK187.out 0; have hfz9_1 := kF BK187.out 1; have hfz9_2 := kF BK187.out 2) | ((with_reducible refine gate_callee (f := 50) rfl ?_); refine goesL_ (some 7) rfl rfl Try.func50 (by kernel_rfl) rfl #[.agg #[.int .i64 a0_0, .int .i64 a0_1, .slice A0_2 l0_2.length c0_2], .int .i64 a1] rfl (by (try simp only [List.map_toArray, List.map_cons, List.map_nil]); first | done | rfl | (simp only [List.length_drop, List.length_take]; rfl)) ?_; (with_reducible refine (r4Is.calls k a0_0 a0_1 _ _ l0_2 a1 false _ ?side1 ?side2 A3.out).mono ?_); (case side1 => repeat (first | exact (Kd.C_below HR0_2.out HB.out) | (with_reducible refine Kd.C_alloc ?_ _) | (with_reducible refine Kd.C_drewN ?_ _) | (with_reducible refine Kd.C_drew ?_))); (case side2 => exact HC0_2.out); rintro e w10 ⟨rfl, hb⟩; refine ⟨_, rfl, ?_⟩; have n0_ := Q9a.mk (kB (g := gb187) (o := .cells #[.int .i64 a0_0, .int .i64 a0_1, .slice A0_2 l0_2.length c0_2] 24 (0, 0)) (by (with_reducible repeat (first | refine kN ?_ _ | refine kD ?_ | refine kA ?_ _)); exact BK187.out) hb); have n1_ := Q9a.mk (bP (by repeat (first | (with_reducible first | exact HB.out | apply bA | apply bN | apply bD | refine bS ?_ GE187.out) | exact HB.out)) hb); clear BK187; clear HB; have BK187 := n0_; have HB := n1_; clear n0_ n1_; (try clear hb); (try clear hb2); (try clear hk); (try clear hi)))
  go_ret
  exact ⟨by first | rfl | (simp [eN, eS] <;> rfl) | (simp [*, eN, eS] <;> rfl), by repeat (first | (with_reducible first | exact HB.out | apply bA | apply bN | apply bD | refine bS ?_ GE187.out) | exact HB.out)⟩
def r4Digits.f (k : Nat) (a0_0 : Int) (a0_1 : Int) (l0_2 : List Int) (a1 : Int) : Option (List Int) := (r4In.f k a0_0 a0_1 l0_2 a1).bind fun t190 => ((r4digits.f k t190 a0_0 a0_1).bind fun t191 => (some t191))
def r4Value.l0 : Nat → List Int → Int → Int → Int → Int → List Int → Option (Int)
 | 0, _, _, _, _, _, _ => none
 | k + 1, x1, x5, x6, x195000, x195001, x195002 => if x6 ≥ 0 then (if 0 ≤ x6 then (if x6 < (x1.length : Int) then (r4Value.l0 k x1 (wrap64 ((wrap64 (x5 * x195000)) + (rd x1 x6))) (wrap64 (x6 - 1)) x195000 x195001 x195002) else (none)) else (none)) else (some x5)
def r4Value.f (k : Nat) (a0_0 : Int) (a0_1 : Int) (l0_2 : List Int) (l1 : List Int) : Option (Int) := r4Value.l0 k l1 0 (wrap64 ((l1.length : Int) - 1)) a0_0 a0_1 l0_2
end
end Go.Proofs.Ytbohbfggmnjpdaa.P
end
-- Pb2
section
namespace Go.Proofs.Ytbohbfggmnjpdaa.P
noncomputable section
open Go.RowKit Go.Proofs.Ytbohbfggmnjpdaa.Hand Go.Proofs.YtbohbfggmnjpdaaW.PrintWords Go.Proofs.YtbohbfggmnjpdaaW.PrintLast Go.Proofs.YtbohbfggmnjpdaaW.PrintMore
set_option linter.unusedVariables false
set_option linter.unusedSimpArgs false
mutual
def number_Factor.l0 : Nat → Int → List (S87) → Option ((List (S87)) × Int)
 | 0, _, _ => none
 | k + 1, x0, x4 => if x0 > 1 then ((number_least.f x0).bind fun t126 => (number_Factor.l1 k x0 x4 t126 t126 0)) else (some (x4, 0))
def number_Factor.l1 : Nat → Int → List (S87) → Int → Int → Int → Option ((List (S87)) × Int)
 | 0, _, _, _, _, _ => none
 | k + 1, x0, x4, x5, x128000, x128001 => if x5 = 0 then (none) else (if (Int.tmod x0 x5) = 0 then (number_Factor.l1 k (wrap64 (Int.tdiv x0 x5)) x4 x5 x128000 (wrap64 (x128001 + 1))) else (if x4.length < 8796093022208 then (number_Factor.l0 k x0 (x4 ++ [(⟨x128000, x128001⟩ : S87)])) else (none)))
end
def number_Factor.f (k : Nat) (a0 : Int) : Option ((List (S87)) × Int) := (number_in.f a0 1).bind fun t125 => (if t125 = true then (number_Factor.l0 k a0 ([] : List (S87))) else (some (([] : List (S87)), 6)))
set_option maxHeartbeats 8000000 in
set_option maxRecDepth 100000 in
theorem number_Factor.calls (k : Nat) (a0 : Int) (r1 : List (S87)) (r2 : Int) (w : World) (h : number_Factor.f k a0 = some (r1, r2)) :
  Calls Try.prog 62 #[.int .i64 a0] w fun e w' => ∃ v0_ : Value, e = .returned (.tuple #[v0_, .int .i64 r2]) ∧ Kd.R k87 87 w' w.heap.size (fun _ => True) v0_ r1 ∧ Below w.heap.size w w' := by
 have hu87 := Try.underlying87
 have HB := Q9a.mk (Below.refl w.heap.size w)
 have H : ((number_in.f a0 1).bind fun t125 => (if t125 = true then (number_Factor.l0 k a0 ([] : List (S87))) else (some (([] : List (S87)), 6)))) = some (r1, r2) := h
 clear h
 replace H := Option.bind_eq_some_iff.mp H
 obtain ⟨t125, A20, H⟩ := H
 replace H : (if t125 = true then (number_Factor.l0 k a0 ([] : List (S87))) else (some (([] : List (S87)), 6))) = some (r1, r2) := H
 have A2 := Q9a.mk A20
 clear A20
 by_cases c3 : t125 = true
 ·subst c3
  have H1 : (number_Factor.l0 k a0 ([] : List (S87))) = some (r1, r2) := by rw [if_pos rfl] at H; exact H
  clear H
  have H := H1
  clear H1
  have H' := Q9a.mk H
  clear H
  go_enter Try.func62, Try.ntmps62
  go_wp2_with (first | ((with_reducible refine gate_callee (f := 69) rfl ?_); refine goesL_ (some 8) rfl rfl Try.func69 (by kernel_rfl) rfl #[.int .i64 a0, .int .i64 1] rfl (by (try simp only [List.map_toArray, List.map_cons, List.map_nil]); first | done | rfl | (simp only [List.length_drop, List.length_take]; rfl)) ?_; (with_reducible refine (number_in.calls a0 1 true _ A2.out).mono ?_); rintro e w' ⟨rfl, ⟨nd, rfl⟩⟩; refine ⟨_, rfl, ?_⟩))
  go_loopg [0, 4] k (fun kq v0 v4 w' => ∃ (x0_1 : Int) (x4_1 : List (S87)), v0 = .int .i64 x0_1 ∧ Q9a (number_Factor.l0 kq x0_1 x4_1 = some (r1, r2)) ∧ Q9a (kq ≤ k) ∧ Q9a (Kd.R k87 87 w' w.heap.size (fun _ => True) v4 x4_1) ∧ Q9a (Below w.heap.size w w'))
  case atStart => exact ⟨(a0), (([] : List (S87))), (by first | rfl | (simp; done) | (simp [*]; done)), H', ⟨Nat.le_refl _⟩, ⟨by first | exact Kd.R_nil _ _ _ _ _ | exact Kd.N_nil _ _ _ _ _ | exact Kd.V_nil _ _ _ _ _ | exact Kd.Q_nil _ _ _ _ _ | exact Kd.S_nil _ _ _ _ _⟩, ⟨by repeat (first | (with_reducible first | exact HB.out | apply bA | apply bN | apply bD) | exact HB.out)⟩⟩
  case round =>
   clear H'
   try clear p2
   try clear c3
   obtain ⟨x0_1, x4_1, rfl, HA, HK1, HO_4, HB⟩ := hrel
   cases gk with
   | zero => exact absurd HA.out (by simp [number_Factor.l0])
   | succ k1 =>
    have H := HA.out
    clear HA
    simp only [number_Factor.l0] at H
    by_cases c4 : x0_1 > 1
    ·rw [if_pos c4] at H
     have c4b0 : decide (1 < x0_1) = true := decide_eq_true c4
     clear c4
     replace H := Option.bind_eq_some_iff.mp H
     obtain ⟨t126, A50, H⟩ := H
     replace H : (number_Factor.l1 k1 x0_1 x4_1 t126 t126 0) = some (r1, r2) := H
     have A5 := Q9a.mk A50
     clear A50
     have H' := Q9a.mk H
     clear H
     go_wp2_with (first | ((with_reducible refine gate_callee (f := 70) rfl ?_); refine goesL_ (some 13) rfl rfl Try.func70 (by kernel_rfl) rfl #[.int .i64 x0_1] rfl (by (try simp only [List.map_toArray, List.map_cons, List.map_nil]); first | done | rfl | (simp only [List.length_drop, List.length_take]; rfl)) ?_; (with_reducible refine (number_least.calls x0_1 t126 _ A5.out).mono ?_); rintro e w6 ⟨rfl, hb⟩; refine ⟨_, rfl, ?_⟩; have n0_ := Q9a.mk (Kd.R_below (by (with_reducible repeat (first | apply Kd.R_alloc | apply Kd.R_drewN | apply Kd.R_drew)); exact HO_4.out) hb); have n1_ := Q9a.mk (bP (by repeat (first | (with_reducible first | exact HB.out | apply bA | apply bN | apply bD) | exact HB.out)) hb); clear HO_4; clear HB; have HO_4 := n0_; have HB := n1_; clear n0_ n1_; (try clear hb); (try clear hb2); (try clear hk); (try clear hi)) | ((with_reducible refine gate_dst (N := 6) rfl ?_); refine box_event ?hg (N := 6) ?hd (cs := #[.int .i64 0, .int .i64 0]) (t := 87) ?hr ?_; (case hd => rfl); (case hg => rfl); (case hr => first | (go_simp; done) | (go_simp; rfl)); intro gb127 hg w7 hbox hb; have n0_ := Q9a.mk (Kd.R_below (Kd.R_elderB (by (with_reducible repeat (first | apply Kd.R_alloc | apply Kd.R_drewN | apply Kd.R_drew)); exact HO_4.out) gb127 (Nat.le_of_eq hg.symm)) hb); have n1_ := Q9a.mk (bP (by repeat (first | (with_reducible first | exact HB.out | apply bA | apply bN | apply bD) | exact HB.out)) hb); have n2_ := Q9a.mk (hbox); have n3_ := Q9a.mk ((by rw [hg]; exact (bZ (by repeat (first | (with_reducible first | exact HB.out | apply bA | apply bN | apply bD) | exact HB.out))) : w.heap.size ≤ gb127)); have n4_ := Q9a.mk ((by rw [hg]; exact (bZ (by repeat (first | (with_reducible first | exact HB.out | apply bA | apply bN | apply bD) | exact HB.out))) : w.heap.size ≤ gb127)); clear HO_4; clear HB; have HO_4 := n0_; have HB := n1_; have BK127 := n2_; have GW127 := n3_; have GE127 := n4_; clear n0_ n1_ n2_ n3_ n4_; clear hb hbox hg; have hcz8_0 : w7.cell? ⟨gb127, 0, none⟩ = some (.int .i64 0) := (kC BK127.out 0).trans rfl; have hcz8_1 : w7.cell? ⟨gb127, 1, none⟩ = some (.int .i64 0) := (kC BK127.out 1).trans rfl; have hfz8_0 := kF BK127.out 0; have hfz8_1 := kF BK127.out 1))
     go_loopg [0] k1 (fun kq v0 w' => ∃ (x0_2 : Int) (x128001_2 : Int), v0 = .int .i64 x0_2 ∧ Q9a (number_Factor.l1 kq x0_2 x4_1 t126 t126 x128001_2 = some (r1, r2)) ∧ Q9a (kq ≤ k1) ∧ Q9a (Kd.R k87 87 w' w.heap.size (fun k_ => k_ ≠ gb127) u4 x4_1) ∧ Q9a (w'.heap[gb127]? = some (.cells #[.int .i64 t126, .int .i64 x128001_2] 87 (0, 0))) ∧ Q9a (Below w.heap.size w w'))
     case atStart => exact ⟨(x0_1), (0), (by first | rfl | (simp; done) | (simp [*]; done)), H', ⟨Nat.le_refl _⟩, ⟨by (with_reducible repeat (first | apply Kd.R_alloc | apply Kd.R_drewN | apply Kd.R_drew)); exact Kd.R_mono (Kd.R_far (p := ⟨gb127, 1, none⟩) (Kd.R_far (p := ⟨gb127, 0, none⟩) (Kd.R_mono HO_4.out (fun k_ hk => (⟨hk, hk.2⟩ : _ ∧ k_ ≠ gb127))) (fun _ hk => hk.2) (.int .i64 t126)) (fun _ hk => hk.2) (.int .i64 0)) (fun _ hk => hk.1.2)⟩, ⟨by (with_reducible repeat (first | refine kN ?_ _ | refine kD ?_ | refine kA ?_ _)); refine blk_put (cs := #[.int .i64 t126, .int .i64 0]) ?_ 1 _ rfl; (with_reducible repeat (first | refine kN ?_ _ | refine kD ?_ | refine kA ?_ _)); refine blk_put (cs := #[.int .i64 0, .int .i64 0]) ?_ 0 _ rfl; (with_reducible repeat (first | refine kN ?_ _ | refine kD ?_ | refine kA ?_ _)); exact BK127.out⟩, ⟨by repeat (first | (with_reducible first | exact HB.out | apply bA | apply bN | apply bD | refine bS ?_ GE127.out) | exact HB.out)⟩⟩
     case round =>
      clear H'
      try clear p2
      try clear c3
      try clear c4
      try clear c4b0
      try clear c6
      try clear c7
      try clear hcz8_0
      try clear hcz8_1
      try clear hfz8_0
      try clear hfz8_1
      try clear p2
      obtain ⟨x0_2, x128001_2, rfl, HA, HK2, HO_4, BK127, HB⟩ := hrel
      cases gk with
      | zero => exact absurd HA.out (by simp [number_Factor.l1])
      | succ k2 =>
       have H := HA.out
       clear HA
       simp only [number_Factor.l1] at H
       by_cases c9 : t126 = 0
       ·rw [if_pos c9] at H
        exact absurd H (by simp)
       ·rw [if_neg c9] at H
        have c9b0 : (t126 == 0) = false := beq_eq_false_iff_ne.mpr c9
        have c9b1 : (t126 != 0) = true := bne_iff_ne.mpr c9
        by_cases c10 : (Int.tmod x0_2 t126) = 0
        ·rw [if_pos c10] at H
         have c10b0 : ((Int.tmod x0_2 t126) == 0) = true := beq_iff_eq.mpr c10
         have c10b1 : ((Int.tmod x0_2 t126) != 0) = false := bne_eq_false_iff_eq.mpr c10
         clear c10
         have H' := Q9a.mk H
         clear H
         have hcz11_0 : wr.cell? ⟨gb127, 0, none⟩ = some (.int .i64 t126) := (kC BK127.out 0).trans rfl
         have hcz11_1 : wr.cell? ⟨gb127, 1, none⟩ = some (.int .i64 x128001_2) := (kC BK127.out 1).trans rfl
         have hfz11_0 := kF BK127.out 0
         have hfz11_1 := kF BK127.out 1
         go_wp2
         go_roundg k2
         case measure => have := HK1.out; have := HK2.out; omega
         case rel => exact ⟨(wrap64 (Int.tdiv x0_2 t126)), (wrap64 (x128001_2 + 1)), (by first | rfl | (simp; done) | (simp [*]; done)), H', ⟨by have := HK1.out; have := HK2.out; omega⟩, ⟨by (with_reducible repeat (first | apply Kd.R_alloc | apply Kd.R_drewN | apply Kd.R_drew)); exact Kd.R_mono (Kd.R_far (p := ⟨gb127, 1, none⟩) (Kd.R_mono HO_4.out (fun k_ hk => (⟨hk, hk⟩ : _ ∧ k_ ≠ gb127))) (fun _ hk => hk.2) (.int .i64 (wrap64 (x128001_2 + 1)))) (fun _ hk => hk.1)⟩, ⟨by (with_reducible repeat (first | refine kN ?_ _ | refine kD ?_ | refine kA ?_ _)); refine blk_put (cs := #[.int .i64 t126, .int .i64 x128001_2]) ?_ 1 _ rfl; (with_reducible repeat (first | refine kN ?_ _ | refine kD ?_ | refine kA ?_ _)); exact BK127.out⟩, ⟨by repeat (first | (with_reducible first | exact HB.out | apply bA | apply bN | apply bD | refine bS ?_ GE127.out) | exact HB.out)⟩⟩
        ·rw [if_neg c10] at H
         have c10b0 : ((Int.tmod x0_2 t126) == 0) = false := beq_eq_false_iff_ne.mpr c10
         have c10b1 : ((Int.tmod x0_2 t126) != 0) = true := bne_iff_ne.mpr c10
         by_cases c12 : x4_1.length < 8796093022208
         ·rw [if_pos c12] at H
          have LMc12 := Q9a.mk c12
          clear c12
          obtain ⟨y128, hy128⟩ : ∃ y_ : List (S87), y_ = (x4_1 ++ [(⟨t126, x128001_2⟩ : S87)]) := ⟨_, rfl⟩
          replace H : (number_Factor.l0 k2 x0_2 y128) = some (r1, r2) := by first | (rw [hy128]; with_reducible exact H) | (have H2_ := (Option.bind_some _ _).symm.trans H; rw [hy128]; with_reducible exact H2_) | (have H2_ := (Option.bind_some _ _).symm.trans H; with_reducible exact H2_) | with_reducible exact H | (rw [hy128]; exact H) | exact H
          have Ny128 := Q9a.mk hy128
          clear hy128
          have H' := Q9a.mk H
          clear H
          have hcz13_0 : wr.cell? ⟨gb127, 0, none⟩ = some (.int .i64 t126) := (kC BK127.out 0).trans rfl
          have hcz13_1 : wr.cell? ⟨gb127, 1, none⟩ = some (.int .i64 x128001_2) := (kC BK127.out 1).trans rfl
          have hfz13_0 := kF BK127.out 0
          have hfz13_1 := kF BK127.out 1
          go_wp2_with (first | ((with_reducible refine gate_builtin (b := .append) (xs := #[.tmp 27, .tmp 29]) rfl ?_); at_builtin; refine Kd.R_append k87 (w0 := w) w.heap.size rfl (.tmp 27) (.tmp 29) 83 87 (.agg #[(.int .i64 0), (.int .i64 0)]) 16 rfl Try.underlying83 info87 rfl (by decide) (by omega) u4 x4_1 (⟨t126, x128001_2⟩ : S87) [.int .i64 t126, .int .i64 x128001_2] (fun k_ => k_ ≠ gb127) (fun _ => False) rfl rfl ?aP (fun _ hk => hk.elim) ?aF ?aO ?aB ?aS ?aL ?_; (case aP => exact k87_mkM _ _ _ (⟨t126, x128001_2⟩ : S87)); (case aB => exact (by repeat (first | (with_reducible first | exact HB.out | apply bA | apply bN | apply bD | refine bS ?_ GE127.out) | exact HB.out))); (case aF => exact (fun k_ hk => Kd.freshB (g := gb127) (o := .cells #[.int .i64 t126, .int .i64 x128001_2] 87 (0, 0)) (by (with_reducible repeat (first | refine kN ?_ _ | refine kD ?_ | refine kA ?_ _)); exact BK127.out) k_ hk)); (case aO => exact (by (with_reducible repeat (first | apply Kd.R_alloc | apply Kd.R_drewN | apply Kd.R_drew)); exact HO_4.out)); (case aS => exact (bZ (by repeat (first | (with_reducible first | exact HB.out | apply bA | apply bN | apply bD | refine bS ?_ GE127.out) | exact HB.out)))); (case aL => have := LMc12.out; omega); intro v129 w14 ho hb hg hat; rw [← Ny128.out] at ho; have n0_ := Q9a.mk (blk_grown (g := gb127) (o := .cells #[.int .i64 t126, .int .i64 x128001_2] 87 (0, 0)) (by (with_reducible repeat (first | refine kN ?_ _ | refine kD ?_ | refine kA ?_ _)); exact BK127.out) hg (Kd.R_away HO_4.out (fun _ hk => hk))); have n1_ := Q9a.mk (hb); have n2_ := Q9a.mk (ho); clear BK127; clear HB; clear HO_4; have BK127 := n0_; have HB := n1_; have HO130 := n2_; clear n0_ n1_ n2_; clear ho hb hg hat))
          go_roundg k2
          case measure => have := HK1.out; have := HK2.out; omega
          case rel => exact ⟨(x0_2), (y128), (by first | rfl | (simp; done) | (simp [*]; done)), H', ⟨by have := HK1.out; have := HK2.out; omega⟩, ⟨by (with_reducible repeat (first | apply Kd.R_alloc | apply Kd.R_drewN | apply Kd.R_drew)); exact Kd.R_mono HO130.out (fun _ hk => trivial)⟩, ⟨by repeat (first | (with_reducible first | exact HB.out | apply bA | apply bN | apply bD | refine bS ?_ GE127.out) | exact HB.out)⟩⟩
         ·rw [if_neg c12] at H
          exact absurd H (by simp)
    ·rw [if_neg c4] at H
     have c4b0 : decide (1 < x0_1) = false := decide_eq_false c4
     clear c4
     simp only [Option.some.injEq, Prod.mk.injEq] at H
     obtain ⟨rfl, rfl⟩ := H
     go_wp2
     go_ret2
     exact ⟨_, by first | rfl | (simp [eN, eS] <;> rfl) | (simp [*, eN, eS] <;> rfl), by (with_reducible repeat (first | apply Kd.R_alloc | apply Kd.R_drewN | apply Kd.R_drew)); exact HO_4.out, by repeat (first | (with_reducible first | exact HB.out | apply bA | apply bN | apply bD) | exact HB.out)⟩
 ·replace c3 := Bool.eq_false_iff.mpr c3
  subst c3
  have H1 : (some (([] : List (S87)), 6)) = some (r1, r2) := by rw [if_neg (show ¬ (false = true) by decide)] at H; exact H
  clear H
  have H := H1
  clear H1
  simp only [Option.some.injEq, Prod.mk.injEq] at H
  obtain ⟨rfl, rfl⟩ := H
  go_enter Try.func62, Try.ntmps62
  go_wp2_with (first | ((with_reducible refine gate_callee (f := 69) rfl ?_); refine goesL_ (some 8) rfl rfl Try.func69 (by kernel_rfl) rfl #[.int .i64 a0, .int .i64 1] rfl (by (try simp only [List.map_toArray, List.map_cons, List.map_nil]); first | done | rfl | (simp only [List.length_drop, List.length_take]; rfl)) ?_; (with_reducible refine (number_in.calls a0 1 false _ A2.out).mono ?_); rintro e w' ⟨rfl, ⟨nd, rfl⟩⟩; refine ⟨_, rfl, ?_⟩))
  go_ret2
  exact ⟨_, by first | rfl | (simp [eN, eS] <;> rfl) | (simp [*, eN, eS] <;> rfl), by first | exact Kd.R_nil _ _ _ _ _ | exact Kd.N_nil _ _ _ _ _ | exact Kd.V_nil _ _ _ _ _ | exact Kd.Q_nil _ _ _ _ _ | exact Kd.S_nil _ _ _ _ _, by repeat (first | (with_reducible first | exact HB.out | apply bA | apply bN | apply bD) | exact HB.out)⟩
def dlog_primes.l0 : Nat → List Int → List (S87) → Int → Int → Option (List Int)
 | 0, _, _, _, _ => none
 | k + 1, x5, x16, x17, x18 => if x18 < x17 then (if 0 ≤ x18 then (if x18 < (x16.length : Int) then (if x18 < (x5.length : Int) then (dlog_primes.l0 k (x5.set (x18 : Int).toNat ((rd_T87 x16 x18).f0)) x16 x17 (wrap64 (x18 + 1))) else (none)) else (none)) else (none)) else (some x5)
def dlog_primes.f (k : Nat) (a0 : Int) : Option (List Int) := (number_Factor.f k a0).bind fun bt131 => (if 0 ≤ (bt131.1.length : Int) then (if ((bt131.1.length : Int) : Int).toNat ≤ 35184372088832 then (dlog_primes.l0 k (List.replicate ((bt131.1.length : Int) : Int).toNat 0) bt131.1 (bt131.1.length : Int) 0) else (none)) else (none))
set_option maxHeartbeats 8000000 in
set_option maxRecDepth 100000 in
theorem dlog_primes.calls (k : Nat) (a0 : Int) (r : List Int) (w : World) (h : dlog_primes.f k a0 = some r) :
  Calls Try.prog 43 #[.int .i64 a0] w fun e w' => ∃ v0_ : Value, e = .returned (v0_) ∧ Kd.R (Kd.int .i64) 3 w' w.heap.size (fun _ => True) v0_ r ∧ Below w.heap.size w w' := by
 have hu87 := Try.underlying87
 have HB := Q9a.mk (Below.refl w.heap.size w)
 have H : ((number_Factor.f k a0).bind fun bt131 => (if 0 ≤ (bt131.1.length : Int) then (if ((bt131.1.length : Int) : Int).toNat ≤ 35184372088832 then (dlog_primes.l0 k (List.replicate ((bt131.1.length : Int) : Int).toNat 0) bt131.1 (bt131.1.length : Int) 0) else (none)) else (none))) = some r := h
 clear h
 replace H := Option.bind_eq_some_iff.mp H
 obtain ⟨⟨t131, t132⟩, A20, H⟩ := H
 replace H : (if 0 ≤ (t131.length : Int) then (if ((t131.length : Int) : Int).toNat ≤ 35184372088832 then (dlog_primes.l0 k (List.replicate ((t131.length : Int) : Int).toNat 0) t131 (t131.length : Int) 0) else (none)) else (none)) = some r := H
 have A2 := Q9a.mk A20
 clear A20
 by_cases c3 : 0 ≤ (t131.length : Int)
 ·rw [if_pos c3] at H
  have c3b0 := eq_true c3
  have c3b1 : decide (0 ≤ (t131.length : Int)) = true := decide_eq_true c3
  clear c3
  by_cases c4 : ((t131.length : Int) : Int).toNat ≤ 35184372088832
  ·rw [if_pos c4] at H
   have c4b0 := eq_true c4
   have c4b1 : decide (((t131.length : Int) : Int).toNat ≤ 35184372088832) = true := decide_eq_true c4
   clear c4
   obtain ⟨y135, hy135⟩ : ∃ y_ : List Int, y_ = (List.replicate ((t131.length : Int) : Int).toNat 0) := ⟨_, rfl⟩
   replace H : (dlog_primes.l0 k y135 t131 (t131.length : Int) 0) = some r := by first | (rw [hy135]; with_reducible exact H) | (have H2_ := (Option.bind_some _ _).symm.trans H; rw [hy135]; with_reducible exact H2_) | (have H2_ := (Option.bind_some _ _).symm.trans H; with_reducible exact H2_) | with_reducible exact H | (rw [hy135]; exact H) | exact H
   have Ny135 := Q9a.mk hy135
   clear hy135
   have H' := Q9a.mk H
   clear H
   go_enter Try.func43, Try.ntmps43
   go_wp2_with (first | ((with_reducible refine gate_callee (f := 62) rfl ?_); refine goesL_ (some 10) rfl rfl Try.func62 (by kernel_rfl) rfl #[.int .i64 a0] rfl (by (try simp only [List.map_toArray, List.map_cons, List.map_nil]); first | done | rfl | (simp only [List.length_drop, List.length_take]; rfl)) ?_; (with_reducible refine (number_Factor.calls k a0 t131 t132 _ A2.out).mono ?_); rintro e w5 ⟨v133, rfl, ho0, hb⟩; refine ⟨_, rfl, ?_⟩; have n0_ := Q9a.mk (Kd.R_lower ho0 (bZ (by repeat (first | (with_reducible first | exact HB.out | apply bA | apply bN | apply bD) | exact HB.out)))); have n1_ := Q9a.mk (bP (by repeat (first | (with_reducible first | exact HB.out | apply bA | apply bN | apply bD) | exact HB.out)) hb); clear HB; have HO134 := n0_; have HB := n1_; clear n0_ n1_; (try clear hb); (try clear hb2); (try clear hk); (try clear hi); (try clear ho0); obtain ⟨Ao6, co6, eo6⟩ := Kd.R_slice HO134.out; subst eo6) | ((with_reducible refine gate_dst (N := 15) rfl ?_); refine Kd.R_make (Kd.int .i64) _ 3 rfl (N := 15) rfl 22 _ _ rfl (t131.length : Int) rfl rfl Try.underlying22 (.int .i64 0) 8 info3 rfl (by decide) (by omega) 0 (ok := fun _ => True) (okp := fun _ => True) rfl (fun _ hk => hk) trivial (of_decide_eq_true (by first | (with_reducible assumption) | assumption)) (Nat.le_trans (Nat.mul_le_mul_right _ (of_decide_eq_true (by first | (with_reducible assumption) | assumption) : (t131.length : Int).toNat ≤ 35184372088832)) (by omega)) (Below.refl _ _) (Nat.le_refl _) ?_; intro v136 w7 ho8 hb hg_ hnew_; clear hg_ hnew_; (first | rw [← Ny135.out] at ho8 | (simp only [Int.reduceToNat] at ho8; rw [← Ny135.out] at ho8)); have n0_ := Q9a.mk (Kd.R_below (by (with_reducible repeat (first | apply Kd.R_alloc | apply Kd.R_drewN | apply Kd.R_drew)); exact HO134.out) hb); have n1_ := Q9a.mk (Kd.R_lower ho8 (bZ (by repeat (first | (with_reducible first | exact HB.out | apply bA | apply bN | apply bD) | exact HB.out)))); have n2_ := Q9a.mk (bP (by repeat (first | (with_reducible first | exact HB.out | apply bA | apply bN | apply bD) | exact HB.out)) hb); clear HO134; clear HB; have HO134 := n0_; have HO137 := n1_; have HB := n2_; clear n0_ n1_ n2_; clear hb ho8))
   go_loopg [18] k (fun kq v18 w' => ∃ (x5_1 : List Int) (x18_1 : Int), v18 = .int .i64 x18_1 ∧ Q9a (dlog_primes.l0 kq x5_1 t131 (t131.length : Int) x18_1 = some r) ∧ Q9a (kq ≤ k) ∧ Q9a (Kd.R (Kd.int .i64) 3 w' w.heap.size (fun _ => True) v136 x5_1) ∧ Q9a (Kd.R k87 87 w' w.heap.size (fun _ => True) (.slice Ao6 t131.length co6) t131) ∧ Q9a (Below w.heap.size w w'))
   case atStart => exact ⟨(y135), (0), (by first | rfl | (simp; done) | (simp [*]; done)), H', ⟨Nat.le_refl _⟩, ⟨by (with_reducible repeat (first | apply Kd.R_alloc | apply Kd.R_drewN | apply Kd.R_drew)); exact HO137.out⟩, ⟨by (with_reducible repeat (first | apply Kd.R_alloc | apply Kd.R_drewN | apply Kd.R_drew)); exact HO134.out⟩, ⟨by repeat (first | (with_reducible first | exact HB.out | apply bA | apply bN | apply bD) | exact HB.out)⟩⟩
   case round =>
    clear H'
    try clear p2
    try clear c3
    try clear c3b0
    try clear c3b1
    try clear c4
    try clear c4b0
    try clear c4b1
    try clear c6
    obtain ⟨x5_1, x18_1, rfl, HA, HK1, HO_5, HO_16, HB⟩ := hrel
    cases gk with
    | zero => exact absurd HA.out (by simp [dlog_primes.l0])
    | succ k1 =>
     have H := HA.out
     clear HA
     simp only [dlog_primes.l0] at H
     by_cases c9 : x18_1 < (t131.length : Int)
     ·rw [if_pos c9] at H
      have c9b0 : decide (x18_1 < (t131.length : Int)) = true := decide_eq_true c9
      clear c9
      by_cases c10 : 0 ≤ x18_1
      ·rw [if_pos c10] at H
       have c10b0 : decide (0 ≤ x18_1) = true := decide_eq_true c10
       clear c10
       by_cases c11 : x18_1 < (t131.length : Int)
       ·rw [if_pos c11] at H
        have c11b0 : decide (x18_1 < (t131.length : Int)) = true := decide_eq_true c11
        clear c11
        by_cases c12 : x18_1 < (x5_1.length : Int)
        ·rw [if_pos c12] at H
         have c12b0 : decide (x18_1 < (x5_1.length : Int)) = true := decide_eq_true c12
         clear c12
         obtain ⟨y140, hy140⟩ : ∃ y_ : List Int, y_ = (x5_1.set (x18_1 : Int).toNat ((rd_T87 t131 x18_1).f0)) := ⟨_, rfl⟩
         replace H : (dlog_primes.l0 k1 y140 t131 (t131.length : Int) (wrap64 (x18_1 + 1))) = some r := by first | (rw [hy140]; with_reducible exact H) | (have H2_ := (Option.bind_some _ _).symm.trans H; rw [hy140]; with_reducible exact H2_) | (have H2_ := (Option.bind_some _ _).symm.trans H; with_reducible exact H2_) | with_reducible exact H | (rw [hy140]; exact H) | exact H
         have Ny140 := Q9a.mk hy140
         clear hy140
         have H' := Q9a.mk H
         clear H
         have p138 : 0 ≤ (x18_1 : Int) := of_decide_eq_true (by first | (with_reducible assumption) | assumption)
         have q138 : x18_1 < (t131.length : Int) := of_decide_eq_true (by first | (with_reducible assumption) | assumption)
         obtain ⟨ad138, e138, hx138_0, hx138_1⟩ := at_T87 (Kd.R_reads' HO_16.out).2.2 x18_1 p138 q138
         cases e138
         replace p138 := eq_true p138
         replace q138 := eq_true q138
         go_wp2_with (first | ((with_reducible refine gate_dst (N := 7) rfl ?_); refine box_event ?hg (N := 7) ?hd (cs := #[.int .i64 0, .int .i64 0]) (t := 87) ?hr ?_; (case hd => rfl); (case hg => rfl); (case hr => first | (go_simp; done) | (go_simp; rfl)); intro gb139 hg w14 hbox hb; have n0_ := Q9a.mk (Kd.R_below (by (with_reducible repeat (first | apply Kd.R_alloc | apply Kd.R_drewN | apply Kd.R_drew)); exact HO_5.out) hb); have n1_ := Q9a.mk (Kd.R_below (Kd.R_elderB (by (with_reducible repeat (first | apply Kd.R_alloc | apply Kd.R_drewN | apply Kd.R_drew)); exact HO_16.out) gb139 (Nat.le_of_eq hg.symm)) hb); have n2_ := Q9a.mk (bP (by repeat (first | (with_reducible first | exact HB.out | apply bA | apply bN | apply bD) | exact HB.out)) hb); have n3_ := Q9a.mk (hbox); have n4_ := Q9a.mk ((by rw [hg]; exact (bZ (by repeat (first | (with_reducible first | exact HB.out | apply bA | apply bN | apply bD) | exact HB.out))) : w.heap.size ≤ gb139)); have n5_ := Q9a.mk ((by rw [hg]; exact (bZ (by repeat (first | (with_reducible first | exact HB.out | apply bA | apply bN | apply bD) | exact HB.out))) : w.heap.size ≤ gb139)); clear HO_5; clear HO_16; clear HB; have HO_5 := n0_; have HO_16 := n1_; have HB := n2_; have BK139 := n3_; have GW139 := n4_; have GE139 := n5_; clear n0_ n1_ n2_ n3_ n4_ n5_; clear hb hbox hg; have hcz15_0 : w14.cell? ⟨gb139, 0, none⟩ = some (.int .i64 0) := (kC BK139.out 0).trans rfl; have hcz15_1 : w14.cell? ⟨gb139, 1, none⟩ = some (.int .i64 0) := (kC BK139.out 1).trans rfl; have hfz15_0 := kF BK139.out 0; have hfz15_1 := kF BK139.out 1) | ((with_reducible refine gate_store (t := 87) (p := 7) rfl ?_); refine store_event (t := 87) (p := 7) (v := ?vo_w16) (w1 := ((w14.setCell ⟨gb139, 0, none⟩ (.int .i64 ((rd_T87 t131 x18_1).f0))).setCell ⟨gb139, 1, none⟩ (.int .i64 ((rd_T87 t131 x18_1).f1)))) ?hg ?ho ?hn ?hr ?_; (case ho => rfl); (case hg => rfl); (case hn => rfl); (case hr => first | (go_simp; done) | (go_simp; rfl)); intro w16 hw; have n0_ : Q9a (Kd.R (Kd.int .i64) 3 w16 w.heap.size (fun _ => True) v136 x5_1) := ⟨(by rw [hw]; exact (by (with_reducible repeat (first | apply Kd.R_alloc | apply Kd.R_drewN | apply Kd.R_drew)); exact Kd.R_mono (Kd.R_far (p := ⟨gb139, 1, none⟩) (Kd.R_far (p := ⟨gb139, 0, none⟩) (Kd.R_types HO_5.out BK139.out (by decide)) (fun _ hk => hk.2) (.int .i64 ((rd_T87 t131 x18_1).f0))) (fun _ hk => hk.2) (.int .i64 ((rd_T87 t131 x18_1).f1))) (fun _ hk => trivial)))⟩; have n1_ : Q9a (Kd.R k87 87 w16 w.heap.size (fun k_ => k_ ≠ gb139) (.slice (some ad138) t131.length co6) t131) := ⟨(by rw [hw]; exact (by (with_reducible repeat (first | apply Kd.R_alloc | apply Kd.R_drewN | apply Kd.R_drew)); exact Kd.R_mono (Kd.R_far (p := ⟨gb139, 1, none⟩) (Kd.R_far (p := ⟨gb139, 0, none⟩) (Kd.R_mono HO_16.out (fun k_ hk => (⟨hk, hk.2⟩ : _ ∧ k_ ≠ gb139))) (fun _ hk => hk.2) (.int .i64 ((rd_T87 t131 x18_1).f0))) (fun _ hk => hk.2) (.int .i64 ((rd_T87 t131 x18_1).f1))) (fun _ hk => hk.1.2)))⟩; have n2_ : Q9a (w16.heap[gb139]? = some (.cells #[.int .i64 ((rd_T87 t131 x18_1).f0), .int .i64 ((rd_T87 t131 x18_1).f1)] 87 (0, 0))) := ⟨(by rw [hw]; exact (by (with_reducible repeat (first | refine kN ?_ _ | refine kD ?_ | refine kA ?_ _)); refine blk_put (cs := #[.int .i64 ((rd_T87 t131 x18_1).f0), .int .i64 0]) ?_ 1 _ rfl; (with_reducible repeat (first | refine kN ?_ _ | refine kD ?_ | refine kA ?_ _)); refine blk_put (cs := #[.int .i64 0, .int .i64 0]) ?_ 0 _ rfl; (with_reducible repeat (first | refine kN ?_ _ | refine kD ?_ | refine kA ?_ _)); exact BK139.out))⟩; have n3_ : Q9a (Below w.heap.size w w16) := ⟨(by rw [hw]; exact (by repeat (first | (with_reducible first | exact HB.out | apply bA | apply bN | apply bD | refine bS ?_ GE139.out) | exact HB.out)))⟩; clear hw; clear HO_5; clear HO_16; clear BK139; clear HB; have HO_5 := n0_; have HO_16 := n1_; have BK139 := n2_; have HB := n3_; clear n0_ n1_ n2_ n3_; have hcz17_0 : w16.cell? ⟨gb139, 0, none⟩ = some (.int .i64 ((rd_T87 t131 x18_1).f0)) := (kC BK139.out 0).trans rfl; have hcz17_1 : w16.cell? ⟨gb139, 1, none⟩ = some (.int .i64 ((rd_T87 t131 x18_1).f1)) := (kC BK139.out 1).trans rfl; have hfz17_0 := kF BK139.out 0; have hfz17_1 := kF BK139.out 1; have p13 : 0 ≤ (x18_1 : Int) := of_decide_eq_true (by first | (with_reducible assumption) | assumption); have q13 : (x18_1 : Int) < ((x5_1.length : Int) : Int) := of_decide_eq_true (by first | (with_reducible assumption) | assumption); obtain ⟨go13, co13, eo13, gb13, gl13, cl13, HG13⟩ := Kd.R_form HO_5.out (by omega); (first | cases eo13 | (injection eo13 with ea_ en_ ec_; (first | subst ea_ | (injection ea_ with ea_; subst ea_)); subst ec_; clear en_)); have GB13 := Q9a.mk gb13; have GG13 := Q9a.mk HG13; clear gb13 gl13 HG13; obtain ⟨hx13_0, hf13_0⟩ := Kd.R_celln 0 HO_5.out (x18_1 : Int) p13 q13; replace p13 := eq_true p13; replace q13 := eq_true q13; obtain ⟨hy18_, hz18_⟩ := Kd.R_celln 0 HO_5.out (x18_1 : Int) (of_decide_eq_true (by first | (with_reducible assumption) | assumption)) (of_decide_eq_true (by first | (with_reducible assumption) | assumption)); have HP18 := Kd.R_putg HO_5.out (x18_1 : Int) ((rd_T87 t131 x18_1).f0)) | ((with_reducible refine gate_store (t := 3) (p := 27) rfl ?_); refine store_event (t := 3) (p := 27) (v := ?vo_w19) (w1 := (w16.setCell ⟨go13, (x18_1 : Int).toNat, none⟩ (.int .i64 ((rd_T87 t131 x18_1).f0)))) ?hg ?ho ?hn ?hr ?_; (case ho => rfl); (case hg => rfl); (case hn => rfl); (case hr => first | (go_simp; done) | (go_simp; rfl)); intro w19 hw; have hg : w16.grownBy w19 (some go13) := (by rw [hw]; exact HP18.2); have hp_ : Kd.R (Kd.int .i64) 3 w19 w.heap.size (fun _ => True) (.slice (some ⟨go13, 0, none⟩) x5_1.length co13) y140 := (by rw [hw, Ny140.out]; exact HP18.1); clear HP18; have n0_ := Q9a.mk (hp_); have n1_ := Q9a.mk (Kd.R_over' (v := (.slice (some ⟨go13, 0, none⟩) x5_1.length co13)) (by (with_reducible repeat (first | apply Kd.R_alloc | apply Kd.R_drewN | apply Kd.R_drew)); exact HO_16.out) (Kd.R_typed HO_5.out) (by decide) hg); have n2_ := Q9a.mk (blk_grown (g := gb139) (o := .cells #[.int .i64 ((rd_T87 t131 x18_1).f0), .int .i64 ((rd_T87 t131 x18_1).f1)] 87 (0, 0)) (by (with_reducible repeat (first | refine kN ?_ _ | refine kD ?_ | refine kA ?_ _)); exact BK139.out) hg (Kd.R_ne HO_5.out BK139.out (by decide))); have n3_ := Q9a.mk ((by rw [hw]; exact bS (HB.out) GB13.out : Below w.heap.size w w19)); clear HO_5; clear HO_16; clear BK139; clear HB; have HO_5 := n0_; have HO_16 := n1_; have BK139 := n2_; have HB := n3_; clear n0_ n1_ n2_ n3_; clear hg hw hp_))
         go_roundg k1
         case measure => have := HK1.out; omega
         case rel => exact ⟨(y140), (wrap64 (x18_1 + 1)), (by first | rfl | (simp; done) | (simp [*]; done)), H', ⟨by have := HK1.out; omega⟩, ⟨by (with_reducible repeat (first | apply Kd.R_alloc | apply Kd.R_drewN | apply Kd.R_drew)); exact HO_5.out⟩, ⟨by (with_reducible repeat (first | apply Kd.R_alloc | apply Kd.R_drewN | apply Kd.R_drew)); exact Kd.R_mono HO_16.out (fun _ hk => trivial)⟩, ⟨by repeat (first | (with_reducible first | exact HB.out | apply bA | apply bN | apply bD | refine bS ?_ GE139.out) | exact HB.out)⟩⟩
        ·rw [if_neg c12] at H
         exact absurd H (by simp)
       ·rw [if_neg c11] at H
        exact absurd H (by simp)
      ·rw [if_neg c10] at H
       exact absurd H (by simp)
     ·rw [if_neg c9] at H
      have c9b0 : decide (x18_1 < (t131.length : Int)) = false := decide_eq_false c9
      clear c9
      obtain rfl := Option.some.inj H
      go_wp2
      go_ret
      exact ⟨_, by first | rfl | (simp [eN, eS] <;> rfl) | (simp [*, eN, eS] <;> rfl), by (with_reducible repeat (first | apply Kd.R_alloc | apply Kd.R_drewN | apply Kd.R_drew)); exact HO_5.out, by repeat (first | (with_reducible first | exact HB.out | apply bA | apply bN | apply bD) | exact HB.out)⟩
  ·rw [if_neg c4] at H
   exact absurd H (by simp)
 ·rw [if_neg c3] at H
  exact absurd H (by simp)
end
end Go.Proofs.Ytbohbfggmnjpdaa.P
end
-- GmOrder
section
namespace Go.Proofs.Ytbohbfggmnjpdaa.Hand
open Go.RowKit Go.Proofs.YtbohbfggmnjpdaaW.PrintWords
def field_GF_Order.f (a0 : GFv) : Option Int := some (a0.q : Int)
theorem field_GF_Order.calls (b_a0 : Nat) (a0 : GFv) (r : Int) (w : World) (hg0 : GFok w b_a0 a0) (h : field_GF_Order.f a0 = some r) :
  Calls Try.prog 41 #[.pointer (some ⟨b_a0, 0, none⟩)] w fun e w' => e = .returned (.int .i64 r) ∧ Below w.heap.size w w' := by
 obtain rfl := Option.some.inj h
 exact (GS.field_GF_Order.calls b_a0 _ _ _ _ _ _ _ _ _ _ w w hg0.isS (Below.refl _ _) rfl).mono fun e w' h => ⟨h.1, h.2.2.1⟩
end Go.Proofs.Ytbohbfggmnjpdaa.Hand
end
