/- What towerCoordinates_holds needs: texts BC1, T1, T2, T3, T4, T7, put together. -/
import Derived.Test.YtlbddjojhcgpiaaKBC13
import Derived.Lib.LazyBuf
set_option linter.unusedVariables false
set_option linter.unusedSimpArgs false
set_option linter.unusedSectionVars false
set_option maxHeartbeats 8000000
set_option maxRecDepth 100000
-- BC1
section
namespace Go.Proofs.Ytlbddjojhcgpiaa.P
noncomputable section
open Go.RowKit Go.Proofs.Ytlbddjojhcgpiaa.Hand Go.Proofs.YtlbddjojhcgpiaaW.PrintWords Go.Proofs.YtlbddjojhcgpiaaW.PrintLast Go.Proofs.YtlbddjojhcgpiaaW.PrintMore
set_option linter.unusedVariables false
set_option linter.unusedSimpArgs false
def l7alive.f (k : Nat)  : Option (Bool) := (l7made.f 2 4 (([1, 1, 0, 0] : List Int))).bind fun t104 => (optE t104 (some false) (fun q105 => ((tower_Subfield.f q105 2).bind fun bt106 => ((tower_Trace.f k q105 8 1).bind fun bt110 => (if bt106.2 = 0 then ((l7same.f k bt106.1 (([0, 1, 6, 7] : List Int))).bind fun t115 => (if t115 = true then (if bt110.2 = 0 then (if bt110.1 = 1 then ((tower_Degree.f k q105 2).bind fun t116 => (some (t116 == 4))) else (some false)) else (some false)) else (some false))) else (some false))))))
theorem l7alive.calls (k : Nat)  (r : Bool) (w : World) (h : l7alive.f k  = some r) :
  Calls Try.prog 10 #[] w fun e w' => e = .returned (.bool r) ∧ Below w.heap.size w w' := by
 have hu24 := Try.underlying24;have HB := Q9a.mk (Below.refl w.heap.size w);have H : ((l7made.f 2 4 (([1, 1, 0, 0] : List Int))).bind fun t104 => (optE t104 (some false) (fun q105 => ((tower_Subfield.f q105 2).bind fun bt106 => ((tower_Trace.f k q105 8 1).bind fun bt110 => (if bt106.2 = 0 then ((l7same.f k bt106.1 (([0, 1, 6, 7] : List Int))).bind fun t115 => (if t115 = true then (if bt110.2 = 0 then (if bt110.1 = 1 then ((tower_Degree.f k q105 2).bind fun t116 => (some (t116 == 4))) else (some false)) else (some false)) else (some false))) else (some false))))))) = some r := h;clear h;obtain ⟨y101, hy101⟩ : ∃ y_ : List Int, y_ = (([1, 1, 0, 0] : List Int)) := ⟨_, rfl⟩;replace H : ((l7made.f 2 4 y101).bind fun t104 => (optE t104 (some false) (fun q105 => ((tower_Subfield.f q105 2).bind fun bt106 => ((tower_Trace.f k q105 8 1).bind fun bt110 => (if bt106.2 = 0 then ((l7same.f k bt106.1 (([0, 1, 6, 7] : List Int))).bind fun t115 => (if t115 = true then (if bt110.2 = 0 then (if bt110.1 = 1 then ((tower_Degree.f k q105 2).bind fun t116 => (some (t116 == 4))) else (some false)) else (some false)) else (some false))) else (some false))))))) = some r := by first | (rw [hy101]; with_reducible exact H) | (have H2_ := (Option.bind_some _ _).symm.trans H; rw [hy101]; with_reducible exact H2_) | (have H2_ := (Option.bind_some _ _).symm.trans H; with_reducible exact H2_) | with_reducible exact H | (rw [hy101]; exact H) | exact H
 have Ny101 := Q9a.mk hy101;clear hy101;replace H := Option.bind_eq_some_iff.mp H;obtain ⟨t104, A10, H⟩ := H;replace H : (optE t104 (some false) (fun q105 => ((tower_Subfield.f q105 2).bind fun bt106 => ((tower_Trace.f k q105 8 1).bind fun bt110 => (if bt106.2 = 0 then ((l7same.f k bt106.1 (([0, 1, 6, 7] : List Int))).bind fun t115 => (if t115 = true then (if bt110.2 = 0 then (if bt110.1 = 1 then ((tower_Degree.f k q105 2).bind fun t116 => (some (t116 == 4))) else (some false)) else (some false)) else (some false))) else (some false)))))) = some r := H;have A1 := Q9a.mk A10;clear A10;rcases t104 with _ | q105
 ·have H1 : (some false) = some r := H;clear H;have H := H1;clear H1;obtain rfl := Option.some.inj H;go_enter Try.func10, Try.ntmps10
  go_wp2_with (first | ((with_reducible refine gD (N := 6) rfl ?_); (try (refine gG (by rfl) ?_; dsimp only)); refine Kd.R_lit (Kd.int .i64) _ 3 ?hg (N := 6) ?hd (xs := ([1, 1, 0, 0] : List Int)) (inner := [.int .i64 1, .int .i64 1, .int .i64 0, .int .i64 0]) (ok := fun _ => True) (okp := fun _ => True) ?hr ?hp (fun _ hk => hk) trivial (Below.refl _ _) (Nat.le_refl _) (by simp) ?_; (case hd => rfl); (case hg => rfl); (case hr => first | (go_simp; done) | (go_simp; rfl)); (case hp => exact (Reps.one (show Kd.M (Kd.int .i64) _ _ _ 1 [.int .i64 1] from rfl) (Reps.one (show Kd.M (Kd.int .i64) _ _ _ 1 [.int .i64 1] from rfl) (Reps.one (show Kd.M (Kd.int .i64) _ _ _ 0 [.int .i64 0] from rfl) (Reps.one (show Kd.M (Kd.int .i64) _ _ _ 0 [.int .i64 0] from rfl) (Reps.none _ _)))))); intro v102 w2 ho3 hb hg_ hnew_; clear hg_ hnew_; (first | rw [← Ny101.out] at ho3 | (simp only [Int.reduceToNat] at ho3; rw [← Ny101.out] at ho3)); have n0_ := Q9a.mk (Kd.rL ho3 (bZ (bI HB.out))); have n1_ := Q9a.mk (bP (bI HB.out) hb); clear HB; have HO103 := n0_; have HB := n1_; clear n0_ n1_; clear hb ho3; obtain ⟨Ao4, co4, eo4⟩ := Kd.R_slice HO103.out; subst eo4) | ((with_reducible refine gC (f := 11) rfl ?_); refine gL (some 8) rfl rfl Try.func11 (by kernel_rfl) rfl #[.agg #[.int .i64 2, .int .i64 4, .slice Ao4 y101.length co4]] rfl (by (try simp only [sm1, sm2, sm3]); first | done | rfl | (simp only [sm4, sm5]; rfl)) ?_; (with_reducible refine (l7made.calls 2 4 _ _ y101 none _ ?side1 ?side2 A1.out).mono ?_); (case side1 => repeat (first | exact (Kd.R_reads' HO103.out).2.2 | with_reducible first | refine Kd.cA ?_ _ | refine Kd.cN ?_ _ | refine Kd.cD ?_)); (case side2 => exact (Kd.R_reads' HO103.out).2.1); rintro e w5 ⟨b_, rfl, hb, hgo⟩; refine ⟨_, rfl, ?_⟩; have n0_ := Q9a.mk (Kd.R_below (rI HO103.out) hb); have n1_ := Q9a.mk (bP (bI HB.out) hb); clear HO103; clear HB; have HO103 := n0_; have HB := n1_; clear n0_ n1_; (try simp only [gfW_none, gfW_some])))
  go_ret
  exact ⟨by first | rfl | (simp [*, eN, eS] <;> rfl), bI HB.out⟩
 have H1 : ((tower_Subfield.f q105 2).bind fun bt106 => ((tower_Trace.f k q105 8 1).bind fun bt110 => (if bt106.2 = 0 then ((l7same.f k bt106.1 (([0, 1, 6, 7] : List Int))).bind fun t115 => (if t115 = true then (if bt110.2 = 0 then (if bt110.1 = 1 then ((tower_Degree.f k q105 2).bind fun t116 => (some (t116 == 4))) else (some false)) else (some false)) else (some false))) else (some false)))) = some r := H;clear H;have H := H1;clear H1;replace H := Option.bind_eq_some_iff.mp H;obtain ⟨⟨t106, t107⟩, A60, H⟩ := H;replace H : ((tower_Trace.f k q105 8 1).bind fun bt110 => (if t107 = 0 then ((l7same.f k t106 (([0, 1, 6, 7] : List Int))).bind fun t115 => (if t115 = true then (if bt110.2 = 0 then (if bt110.1 = 1 then ((tower_Degree.f k q105 2).bind fun t116 => (some (t116 == 4))) else (some false)) else (some false)) else (some false))) else (some false))) = some r := H;have A6 := Q9a.mk A60;clear A60;replace H := Option.bind_eq_some_iff.mp H;obtain ⟨⟨t110, t111⟩, A70, H⟩ := H;replace H : (if t107 = 0 then ((l7same.f k t106 (([0, 1, 6, 7] : List Int))).bind fun t115 => (if t115 = true then (if t111 = 0 then (if t110 = 1 then ((tower_Degree.f k q105 2).bind fun t116 => (some (t116 == 4))) else (some false)) else (some false)) else (some false))) else (some false)) = some r := H;have A7 := Q9a.mk A70;clear A70;by_cases c8 : t107 = 0
 ·rw [if_pos c8] at H;have c8b0 : (t107 == 0) = true := beq_iff_eq.mpr c8;have c8b1 : (t107 != 0) = false := bne_eq_false_iff_eq.mpr c8;clear c8;obtain ⟨y112, hy112⟩ : ∃ y_ : List Int, y_ = (([0, 1, 6, 7] : List Int)) := ⟨_, rfl⟩;replace H : ((l7same.f k t106 y112).bind fun t115 => (if t115 = true then (if t111 = 0 then (if t110 = 1 then ((tower_Degree.f k q105 2).bind fun t116 => (some (t116 == 4))) else (some false)) else (some false)) else (some false))) = some r := by first | (rw [hy112]; with_reducible exact H) | (have H2_ := (Option.bind_some _ _).symm.trans H; rw [hy112]; with_reducible exact H2_) | (have H2_ := (Option.bind_some _ _).symm.trans H; with_reducible exact H2_) | with_reducible exact H | (rw [hy112]; exact H) | exact H
  have Ny112 := Q9a.mk hy112;clear hy112;replace H := Option.bind_eq_some_iff.mp H;obtain ⟨t115, A90, H⟩ := H;replace H : (if t115 = true then (if t111 = 0 then (if t110 = 1 then ((tower_Degree.f k q105 2).bind fun t116 => (some (t116 == 4))) else (some false)) else (some false)) else (some false)) = some r := H;have A9 := Q9a.mk A90;clear A90;by_cases c10 : t115 = true
  ·subst c10;have H1 : (if t111 = 0 then (if t110 = 1 then ((tower_Degree.f k q105 2).bind fun t116 => (some (t116 == 4))) else (some false)) else (some false)) = some r := by rw [if_pos rfl] at H; exact H
   clear H;have H := H1;clear H1;by_cases c11 : t111 = 0
   ·rw [if_pos c11] at H;have c11b0 : (t111 == 0) = true := beq_iff_eq.mpr c11;have c11b1 : (t111 != 0) = false := bne_eq_false_iff_eq.mpr c11;clear c11;by_cases c12 : t110 = 1
    ·rw [if_pos c12] at H;have c12b0 : (t110 == 1) = true := beq_iff_eq.mpr c12;have c12b1 : (t110 != 1) = false := bne_eq_false_iff_eq.mpr c12;clear c12;replace H := Option.bind_eq_some_iff.mp H;obtain ⟨t116, A130, H⟩ := H;replace H : (some (t116 == 4)) = some r := H;have A13 := Q9a.mk A130;clear A130;obtain rfl := Option.some.inj H;go_enter Try.func10, Try.ntmps10
     go_wp2_with (first | ((with_reducible refine gD (N := 6) rfl ?_); (try (refine gG (by rfl) ?_; dsimp only)); refine Kd.R_lit (Kd.int .i64) _ 3 ?hg (N := 6) ?hd (xs := ([1, 1, 0, 0] : List Int)) (inner := [.int .i64 1, .int .i64 1, .int .i64 0, .int .i64 0]) (ok := fun _ => True) (okp := fun _ => True) ?hr ?hp (fun _ hk => hk) trivial (Below.refl _ _) (Nat.le_refl _) (by simp) ?_; (case hd => rfl); (case hg => rfl); (case hr => first | (go_simp; done) | (go_simp; rfl)); (case hp => exact (Reps.one (show Kd.M (Kd.int .i64) _ _ _ 1 [.int .i64 1] from rfl) (Reps.one (show Kd.M (Kd.int .i64) _ _ _ 1 [.int .i64 1] from rfl) (Reps.one (show Kd.M (Kd.int .i64) _ _ _ 0 [.int .i64 0] from rfl) (Reps.one (show Kd.M (Kd.int .i64) _ _ _ 0 [.int .i64 0] from rfl) (Reps.none _ _)))))); intro v102 w14 ho15 hb hg_ hnew_; clear hg_ hnew_; (first | rw [← Ny101.out] at ho15 | (simp only [Int.reduceToNat] at ho15; rw [← Ny101.out] at ho15)); have n0_ := Q9a.mk (Kd.rL ho15 (bZ (bI HB.out))); have n1_ := Q9a.mk (bP (bI HB.out) hb); clear HB; have HO103 := n0_; have HB := n1_; clear n0_ n1_; clear hb ho15; obtain ⟨Ao16, co16, eo16⟩ := Kd.R_slice HO103.out; subst eo16) | ((with_reducible refine gC (f := 11) rfl ?_); refine gL (some 8) rfl rfl Try.func11 (by kernel_rfl) rfl #[.agg #[.int .i64 2, .int .i64 4, .slice Ao16 y101.length co16]] rfl (by (try simp only [sm1, sm2, sm3]); first | done | rfl | (simp only [sm4, sm5]; rfl)) ?_; (with_reducible refine (l7made.calls 2 4 _ _ y101 (some q105) _ ?side1 ?side2 A1.out).mono ?_); (case side1 => repeat (first | exact (Kd.R_reads' HO103.out).2.2 | with_reducible first | refine Kd.cA ?_ _ | refine Kd.cN ?_ _ | refine Kd.cD ?_)); (case side2 => exact (Kd.R_reads' HO103.out).2.1); rintro e w17 ⟨b_q105, rfl, hb, hgo⟩; refine ⟨_, rfl, ?_⟩; have n0_ := Q9a.mk (Kd.R_below (rI HO103.out) hb); have n1_ := Q9a.mk (bP (bI HB.out) hb); clear HO103; clear HB; have HO103 := n0_; have HB := n1_; clear n0_ n1_; (try simp only [gfW_none, gfW_some]); have HBZ := HB; clear HB; obtain ⟨wz, rfl⟩ : ∃ z_ : World, z_ = w := ⟨_, rfl⟩; obtain ⟨w, rfl⟩ : ∃ z_ : World, z_ = w17 := ⟨_, rfl⟩; have HB := Q9a.mk (Below.refl w.heap.size w); have HG_q105 := Q9a.mk (hgo : GFok w b_q105 q105); clear hgo) | ((with_reducible refine gC (f := 35) rfl ?_); refine gL (some 13) rfl rfl Try.func35 (by kernel_rfl) rfl #[.pointer (some ⟨b_q105, 0, none⟩), .int .i64 2] rfl (by (try simp only [sm1, sm2, sm3]); first | done | rfl | (simp only [sm4, sm5]; rfl)) ?_; (with_reducible refine (tower_Subfield.calls b_q105 q105 2 t106 t107 _ ?side1 A6.out).mono ?_); (case side1 => exact GFok.belowT HG_q105.out (bI HB.out)); rintro e w18 ⟨v108, rfl, ho0, hb⟩; refine ⟨_, rfl, ?_⟩; have n0_ := Q9a.mk (Kd.rL ho0 (bZ (bI HB.out))); have n1_ := Q9a.mk (bP (bI HB.out) hb); clear HB; have HO109 := n0_; have HB := n1_; clear n0_ n1_; (try clear ho0)) | ((with_reducible refine gC (f := 36) rfl ?_); refine gL (some 18) rfl rfl Try.func36 (by kernel_rfl) rfl #[.pointer (some ⟨b_q105, 0, none⟩), .int .i64 8, .int .i64 1] rfl (by (try simp only [sm1, sm2, sm3]); first | done | rfl | (simp only [sm4, sm5]; rfl)) ?_; (with_reducible refine (tower_Trace.calls k b_q105 q105 8 1 t110 t111 _ ?side1 A7.out).mono ?_); (case side1 => exact GFok.belowT HG_q105.out (bI HB.out)); rintro e w19 ⟨rfl, hb⟩; refine ⟨_, rfl, ?_⟩; have n0_ := Q9a.mk (Kd.R_below (rI HO109.out) hb); have n1_ := Q9a.mk (bP (bI HB.out) hb); clear HO109; clear HB; have HO109 := n0_; have HB := n1_; clear n0_ n1_; (try clear hb); (try clear hb2); (try clear hk); (try clear hi)) | ((with_reducible refine gD (N := 25) rfl ?_); (try (refine gG (by rfl) ?_; dsimp only)); refine Kd.R_lit (Kd.int .i64) _ 3 ?hg (N := 25) ?hd (xs := ([0, 1, 6, 7] : List Int)) (inner := [.int .i64 0, .int .i64 1, .int .i64 6, .int .i64 7]) (ok := fun _ => True) (okp := fun _ => True) ?hr ?hp (fun _ hk => hk) trivial (Below.refl _ _) (Nat.le_refl _) (by simp) ?_; (case hd => rfl); (case hg => rfl); (case hr => first | (go_simp; done) | (go_simp; rfl)); (case hp => exact (Reps.one (show Kd.M (Kd.int .i64) _ _ _ 0 [.int .i64 0] from rfl) (Reps.one (show Kd.M (Kd.int .i64) _ _ _ 1 [.int .i64 1] from rfl) (Reps.one (show Kd.M (Kd.int .i64) _ _ _ 6 [.int .i64 6] from rfl) (Reps.one (show Kd.M (Kd.int .i64) _ _ _ 7 [.int .i64 7] from rfl) (Reps.none _ _)))))); intro v113 w20 ho21 hb hg_ hnew_; clear hg_ hnew_; (first | rw [← Ny112.out] at ho21 | (simp only [Int.reduceToNat] at ho21; rw [← Ny112.out] at ho21)); have n0_ := Q9a.mk (Kd.R_elder' (rI HO109.out) (Kd.R_base ho21) hb); have n1_ := Q9a.mk (Kd.rL (Kd.R_new' ho21 (Kd.R_lt (rI HO109.out))) (bZ (bI HB.out))); have n2_ := Q9a.mk (bP (bI HB.out) hb); clear HO109; clear HB; have HO109 := n0_; have HO114 := n1_; have HB := n2_; clear n0_ n1_ n2_; clear hb ho21; obtain ⟨Ao22, co22, eo22⟩ := Kd.R_slice HO109.out; subst eo22; obtain ⟨Ao23, co23, eo23⟩ := Kd.R_slice HO114.out; subst eo23) | (go_at_call 18; (with_reducible refine (l7same.calls k _ _ t106 _ _ y112 true _ ?side1 ?side2 ?side3 ?side4 A9.out).mono ?_); (case side1 => repeat (first | exact (Kd.R_reads' HO109.out).2.2 | with_reducible first | refine Kd.cA ?_ _ | refine Kd.cN ?_ _ | refine Kd.cD ?_)); (case side2 => exact (Kd.R_reads' HO109.out).2.1); (case side3 => repeat (first | exact (Kd.R_reads' HO114.out).2.2 | with_reducible first | refine Kd.cA ?_ _ | refine Kd.cN ?_ _ | refine Kd.cD ?_)); (case side4 => exact (Kd.R_reads' HO114.out).2.1); rintro e w' ⟨rfl, ⟨nd, rfl⟩⟩) | (go_at_call 37; (with_reducible refine (tower_Degree.calls k b_q105 q105 2 t116 _ ?side1 A13.out).mono ?_); (case side1 => exact GFok.belowT HG_q105.out (bI HB.out)); rintro e w24 ⟨rfl, hb⟩; have n0_ := Q9a.mk (Kd.R_below (rI HO109.out) hb); have n1_ := Q9a.mk (Kd.R_below (rI HO114.out) hb); have n2_ := Q9a.mk (bP (bI HB.out) hb); clear HO109; clear HO114; clear HB; have HO109 := n0_; have HO114 := n1_; have HB := n2_; clear n0_ n1_ n2_; (try clear hb); (try clear hb2); (try clear hk); (try clear hi)))
     go_ret
     exact ⟨by first | rfl | (simp [*, eN, eS] <;> rfl), belowZ HBZ.out (bI HB.out)⟩
    rw [if_neg c12] at H;have c12b0 : (t110 == 1) = false := beq_eq_false_iff_ne.mpr c12;have c12b1 : (t110 != 1) = true := bne_iff_ne.mpr c12;obtain rfl := Option.some.inj H;go_enter Try.func10, Try.ntmps10
    go_wp2_with (first | ((with_reducible refine gD (N := 6) rfl ?_); (try (refine gG (by rfl) ?_; dsimp only)); refine Kd.R_lit (Kd.int .i64) _ 3 ?hg (N := 6) ?hd (xs := ([1, 1, 0, 0] : List Int)) (inner := [.int .i64 1, .int .i64 1, .int .i64 0, .int .i64 0]) (ok := fun _ => True) (okp := fun _ => True) ?hr ?hp (fun _ hk => hk) trivial (Below.refl _ _) (Nat.le_refl _) (by simp) ?_; (case hd => rfl); (case hg => rfl); (case hr => first | (go_simp; done) | (go_simp; rfl)); (case hp => exact (Reps.one (show Kd.M (Kd.int .i64) _ _ _ 1 [.int .i64 1] from rfl) (Reps.one (show Kd.M (Kd.int .i64) _ _ _ 1 [.int .i64 1] from rfl) (Reps.one (show Kd.M (Kd.int .i64) _ _ _ 0 [.int .i64 0] from rfl) (Reps.one (show Kd.M (Kd.int .i64) _ _ _ 0 [.int .i64 0] from rfl) (Reps.none _ _)))))); intro v102 w25 ho26 hb hg_ hnew_; clear hg_ hnew_; (first | rw [← Ny101.out] at ho26 | (simp only [Int.reduceToNat] at ho26; rw [← Ny101.out] at ho26)); have n0_ := Q9a.mk (Kd.rL ho26 (bZ (bI HB.out))); have n1_ := Q9a.mk (bP (bI HB.out) hb); clear HB; have HO103 := n0_; have HB := n1_; clear n0_ n1_; clear hb ho26; obtain ⟨Ao27, co27, eo27⟩ := Kd.R_slice HO103.out; subst eo27) | ((with_reducible refine gC (f := 11) rfl ?_); refine gL (some 8) rfl rfl Try.func11 (by kernel_rfl) rfl #[.agg #[.int .i64 2, .int .i64 4, .slice Ao27 y101.length co27]] rfl (by (try simp only [sm1, sm2, sm3]); first | done | rfl | (simp only [sm4, sm5]; rfl)) ?_; (with_reducible refine (l7made.calls 2 4 _ _ y101 (some q105) _ ?side1 ?side2 A1.out).mono ?_); (case side1 => repeat (first | exact (Kd.R_reads' HO103.out).2.2 | with_reducible first | refine Kd.cA ?_ _ | refine Kd.cN ?_ _ | refine Kd.cD ?_)); (case side2 => exact (Kd.R_reads' HO103.out).2.1); rintro e w28 ⟨b_q105, rfl, hb, hgo⟩; refine ⟨_, rfl, ?_⟩; have n0_ := Q9a.mk (Kd.R_below (rI HO103.out) hb); have n1_ := Q9a.mk (bP (bI HB.out) hb); clear HO103; clear HB; have HO103 := n0_; have HB := n1_; clear n0_ n1_; (try simp only [gfW_none, gfW_some]); have HBZ := HB; clear HB; obtain ⟨wz, rfl⟩ : ∃ z_ : World, z_ = w := ⟨_, rfl⟩; obtain ⟨w, rfl⟩ : ∃ z_ : World, z_ = w28 := ⟨_, rfl⟩; have HB := Q9a.mk (Below.refl w.heap.size w); have HG_q105 := Q9a.mk (hgo : GFok w b_q105 q105); clear hgo) | ((with_reducible refine gC (f := 35) rfl ?_); refine gL (some 13) rfl rfl Try.func35 (by kernel_rfl) rfl #[.pointer (some ⟨b_q105, 0, none⟩), .int .i64 2] rfl (by (try simp only [sm1, sm2, sm3]); first | done | rfl | (simp only [sm4, sm5]; rfl)) ?_; (with_reducible refine (tower_Subfield.calls b_q105 q105 2 t106 t107 _ ?side1 A6.out).mono ?_); (case side1 => exact GFok.belowT HG_q105.out (bI HB.out)); rintro e w29 ⟨v108, rfl, ho0, hb⟩; refine ⟨_, rfl, ?_⟩; have n0_ := Q9a.mk (Kd.rL ho0 (bZ (bI HB.out))); have n1_ := Q9a.mk (bP (bI HB.out) hb); clear HB; have HO109 := n0_; have HB := n1_; clear n0_ n1_; (try clear ho0)) | ((with_reducible refine gC (f := 36) rfl ?_); refine gL (some 18) rfl rfl Try.func36 (by kernel_rfl) rfl #[.pointer (some ⟨b_q105, 0, none⟩), .int .i64 8, .int .i64 1] rfl (by (try simp only [sm1, sm2, sm3]); first | done | rfl | (simp only [sm4, sm5]; rfl)) ?_; (with_reducible refine (tower_Trace.calls k b_q105 q105 8 1 t110 t111 _ ?side1 A7.out).mono ?_); (case side1 => exact GFok.belowT HG_q105.out (bI HB.out)); rintro e w30 ⟨rfl, hb⟩; refine ⟨_, rfl, ?_⟩; have n0_ := Q9a.mk (Kd.R_below (rI HO109.out) hb); have n1_ := Q9a.mk (bP (bI HB.out) hb); clear HO109; clear HB; have HO109 := n0_; have HB := n1_; clear n0_ n1_; (try clear hb); (try clear hb2); (try clear hk); (try clear hi)) | ((with_reducible refine gD (N := 25) rfl ?_); (try (refine gG (by rfl) ?_; dsimp only)); refine Kd.R_lit (Kd.int .i64) _ 3 ?hg (N := 25) ?hd (xs := ([0, 1, 6, 7] : List Int)) (inner := [.int .i64 0, .int .i64 1, .int .i64 6, .int .i64 7]) (ok := fun _ => True) (okp := fun _ => True) ?hr ?hp (fun _ hk => hk) trivial (Below.refl _ _) (Nat.le_refl _) (by simp) ?_; (case hd => rfl); (case hg => rfl); (case hr => first | (go_simp; done) | (go_simp; rfl)); (case hp => exact (Reps.one (show Kd.M (Kd.int .i64) _ _ _ 0 [.int .i64 0] from rfl) (Reps.one (show Kd.M (Kd.int .i64) _ _ _ 1 [.int .i64 1] from rfl) (Reps.one (show Kd.M (Kd.int .i64) _ _ _ 6 [.int .i64 6] from rfl) (Reps.one (show Kd.M (Kd.int .i64) _ _ _ 7 [.int .i64 7] from rfl) (Reps.none _ _)))))); intro v113 w31 ho32 hb hg_ hnew_; clear hg_ hnew_; (first | rw [← Ny112.out] at ho32 | (simp only [Int.reduceToNat] at ho32; rw [← Ny112.out] at ho32)); have n0_ := Q9a.mk (Kd.R_elder' (rI HO109.out) (Kd.R_base ho32) hb); have n1_ := Q9a.mk (Kd.rL (Kd.R_new' ho32 (Kd.R_lt (rI HO109.out))) (bZ (bI HB.out))); have n2_ := Q9a.mk (bP (bI HB.out) hb); clear HO109; clear HB; have HO109 := n0_; have HO114 := n1_; have HB := n2_; clear n0_ n1_ n2_; clear hb ho32; obtain ⟨Ao33, co33, eo33⟩ := Kd.R_slice HO109.out; subst eo33; obtain ⟨Ao34, co34, eo34⟩ := Kd.R_slice HO114.out; subst eo34) | (go_at_call 18; (with_reducible refine (l7same.calls k _ _ t106 _ _ y112 true _ ?side1 ?side2 ?side3 ?side4 A9.out).mono ?_); (case side1 => repeat (first | exact (Kd.R_reads' HO109.out).2.2 | with_reducible first | refine Kd.cA ?_ _ | refine Kd.cN ?_ _ | refine Kd.cD ?_)); (case side2 => exact (Kd.R_reads' HO109.out).2.1); (case side3 => repeat (first | exact (Kd.R_reads' HO114.out).2.2 | with_reducible first | refine Kd.cA ?_ _ | refine Kd.cN ?_ _ | refine Kd.cD ?_)); (case side4 => exact (Kd.R_reads' HO114.out).2.1); rintro e w' ⟨rfl, ⟨nd, rfl⟩⟩))
    go_ret
    exact ⟨by first | rfl | (simp [*, eN, eS] <;> rfl), belowZ HBZ.out (bI HB.out)⟩
   rw [if_neg c11] at H;have c11b0 : (t111 == 0) = false := beq_eq_false_iff_ne.mpr c11;have c11b1 : (t111 != 0) = true := bne_iff_ne.mpr c11;obtain rfl := Option.some.inj H;go_enter Try.func10, Try.ntmps10
   go_wp2_with (first | ((with_reducible refine gD (N := 6) rfl ?_); (try (refine gG (by rfl) ?_; dsimp only)); refine Kd.R_lit (Kd.int .i64) _ 3 ?hg (N := 6) ?hd (xs := ([1, 1, 0, 0] : List Int)) (inner := [.int .i64 1, .int .i64 1, .int .i64 0, .int .i64 0]) (ok := fun _ => True) (okp := fun _ => True) ?hr ?hp (fun _ hk => hk) trivial (Below.refl _ _) (Nat.le_refl _) (by simp) ?_; (case hd => rfl); (case hg => rfl); (case hr => first | (go_simp; done) | (go_simp; rfl)); (case hp => exact (Reps.one (show Kd.M (Kd.int .i64) _ _ _ 1 [.int .i64 1] from rfl) (Reps.one (show Kd.M (Kd.int .i64) _ _ _ 1 [.int .i64 1] from rfl) (Reps.one (show Kd.M (Kd.int .i64) _ _ _ 0 [.int .i64 0] from rfl) (Reps.one (show Kd.M (Kd.int .i64) _ _ _ 0 [.int .i64 0] from rfl) (Reps.none _ _)))))); intro v102 w35 ho36 hb hg_ hnew_; clear hg_ hnew_; (first | rw [← Ny101.out] at ho36 | (simp only [Int.reduceToNat] at ho36; rw [← Ny101.out] at ho36)); have n0_ := Q9a.mk (Kd.rL ho36 (bZ (bI HB.out))); have n1_ := Q9a.mk (bP (bI HB.out) hb); clear HB; have HO103 := n0_; have HB := n1_; clear n0_ n1_; clear hb ho36; obtain ⟨Ao37, co37, eo37⟩ := Kd.R_slice HO103.out; subst eo37) | ((with_reducible refine gC (f := 11) rfl ?_); refine gL (some 8) rfl rfl Try.func11 (by kernel_rfl) rfl #[.agg #[.int .i64 2, .int .i64 4, .slice Ao37 y101.length co37]] rfl (by (try simp only [sm1, sm2, sm3]); first | done | rfl | (simp only [sm4, sm5]; rfl)) ?_; (with_reducible refine (l7made.calls 2 4 _ _ y101 (some q105) _ ?side1 ?side2 A1.out).mono ?_); (case side1 => repeat (first | exact (Kd.R_reads' HO103.out).2.2 | with_reducible first | refine Kd.cA ?_ _ | refine Kd.cN ?_ _ | refine Kd.cD ?_)); (case side2 => exact (Kd.R_reads' HO103.out).2.1); rintro e w38 ⟨b_q105, rfl, hb, hgo⟩; refine ⟨_, rfl, ?_⟩; have n0_ := Q9a.mk (Kd.R_below (rI HO103.out) hb); have n1_ := Q9a.mk (bP (bI HB.out) hb); clear HO103; clear HB; have HO103 := n0_; have HB := n1_; clear n0_ n1_; (try simp only [gfW_none, gfW_some]); have HBZ := HB; clear HB; obtain ⟨wz, rfl⟩ : ∃ z_ : World, z_ = w := ⟨_, rfl⟩; obtain ⟨w, rfl⟩ : ∃ z_ : World, z_ = w38 := ⟨_, rfl⟩; have HB := Q9a.mk (Below.refl w.heap.size w); have HG_q105 := Q9a.mk (hgo : GFok w b_q105 q105); clear hgo) | ((with_reducible refine gC (f := 35) rfl ?_); refine gL (some 13) rfl rfl Try.func35 (by kernel_rfl) rfl #[.pointer (some ⟨b_q105, 0, none⟩), .int .i64 2] rfl (by (try simp only [sm1, sm2, sm3]); first | done | rfl | (simp only [sm4, sm5]; rfl)) ?_; (with_reducible refine (tower_Subfield.calls b_q105 q105 2 t106 t107 _ ?side1 A6.out).mono ?_); (case side1 => exact GFok.belowT HG_q105.out (bI HB.out)); rintro e w39 ⟨v108, rfl, ho0, hb⟩; refine ⟨_, rfl, ?_⟩; have n0_ := Q9a.mk (Kd.rL ho0 (bZ (bI HB.out))); have n1_ := Q9a.mk (bP (bI HB.out) hb); clear HB; have HO109 := n0_; have HB := n1_; clear n0_ n1_; (try clear ho0)) | ((with_reducible refine gC (f := 36) rfl ?_); refine gL (some 18) rfl rfl Try.func36 (by kernel_rfl) rfl #[.pointer (some ⟨b_q105, 0, none⟩), .int .i64 8, .int .i64 1] rfl (by (try simp only [sm1, sm2, sm3]); first | done | rfl | (simp only [sm4, sm5]; rfl)) ?_; (with_reducible refine (tower_Trace.calls k b_q105 q105 8 1 t110 t111 _ ?side1 A7.out).mono ?_); (case side1 => exact GFok.belowT HG_q105.out (bI HB.out)); rintro e w40 ⟨rfl, hb⟩; refine ⟨_, rfl, ?_⟩; have n0_ := Q9a.mk (Kd.R_below (rI HO109.out) hb); have n1_ := Q9a.mk (bP (bI HB.out) hb); clear HO109; clear HB; have HO109 := n0_; have HB := n1_; clear n0_ n1_; (try clear hb); (try clear hb2); (try clear hk); (try clear hi)) | ((with_reducible refine gD (N := 25) rfl ?_); (try (refine gG (by rfl) ?_; dsimp only)); refine Kd.R_lit (Kd.int .i64) _ 3 ?hg (N := 25) ?hd (xs := ([0, 1, 6, 7] : List Int)) (inner := [.int .i64 0, .int .i64 1, .int .i64 6, .int .i64 7]) (ok := fun _ => True) (okp := fun _ => True) ?hr ?hp (fun _ hk => hk) trivial (Below.refl _ _) (Nat.le_refl _) (by simp) ?_; (case hd => rfl); (case hg => rfl); (case hr => first | (go_simp; done) | (go_simp; rfl)); (case hp => exact (Reps.one (show Kd.M (Kd.int .i64) _ _ _ 0 [.int .i64 0] from rfl) (Reps.one (show Kd.M (Kd.int .i64) _ _ _ 1 [.int .i64 1] from rfl) (Reps.one (show Kd.M (Kd.int .i64) _ _ _ 6 [.int .i64 6] from rfl) (Reps.one (show Kd.M (Kd.int .i64) _ _ _ 7 [.int .i64 7] from rfl) (Reps.none _ _)))))); intro v113 w41 ho42 hb hg_ hnew_; clear hg_ hnew_; (first | rw [← Ny112.out] at ho42 | (simp only [Int.reduceToNat] at ho42; rw [← Ny112.out] at ho42)); have n0_ := Q9a.mk (Kd.R_elder' (rI HO109.out) (Kd.R_base ho42) hb); have n1_ := Q9a.mk (Kd.rL (Kd.R_new' ho42 (Kd.R_lt (rI HO109.out))) (bZ (bI HB.out))); have n2_ := Q9a.mk (bP (bI HB.out) hb); clear HO109; clear HB; have HO109 := n0_; have HO114 := n1_; have HB := n2_; clear n0_ n1_ n2_; clear hb ho42; obtain ⟨Ao43, co43, eo43⟩ := Kd.R_slice HO109.out; subst eo43; obtain ⟨Ao44, co44, eo44⟩ := Kd.R_slice HO114.out; subst eo44) | (go_at_call 18; (with_reducible refine (l7same.calls k _ _ t106 _ _ y112 true _ ?side1 ?side2 ?side3 ?side4 A9.out).mono ?_); (case side1 => repeat (first | exact (Kd.R_reads' HO109.out).2.2 | with_reducible first | refine Kd.cA ?_ _ | refine Kd.cN ?_ _ | refine Kd.cD ?_)); (case side2 => exact (Kd.R_reads' HO109.out).2.1); (case side3 => repeat (first | exact (Kd.R_reads' HO114.out).2.2 | with_reducible first | refine Kd.cA ?_ _ | refine Kd.cN ?_ _ | refine Kd.cD ?_)); (case side4 => exact (Kd.R_reads' HO114.out).2.1); rintro e w' ⟨rfl, ⟨nd, rfl⟩⟩))
   go_ret
   exact ⟨by first | rfl | (simp [*, eN, eS] <;> rfl), belowZ HBZ.out (bI HB.out)⟩
  replace c10 := Bool.eq_false_iff.mpr c10;subst c10;have H1 : (some false) = some r := by rw [if_neg (show ¬ (false = true) by decide)] at H; exact H
  clear H;have H := H1;clear H1;obtain rfl := Option.some.inj H;go_enter Try.func10, Try.ntmps10
  go_wp2_with (first | ((with_reducible refine gD (N := 6) rfl ?_); (try (refine gG (by rfl) ?_; dsimp only)); refine Kd.R_lit (Kd.int .i64) _ 3 ?hg (N := 6) ?hd (xs := ([1, 1, 0, 0] : List Int)) (inner := [.int .i64 1, .int .i64 1, .int .i64 0, .int .i64 0]) (ok := fun _ => True) (okp := fun _ => True) ?hr ?hp (fun _ hk => hk) trivial (Below.refl _ _) (Nat.le_refl _) (by simp) ?_; (case hd => rfl); (case hg => rfl); (case hr => first | (go_simp; done) | (go_simp; rfl)); (case hp => exact (Reps.one (show Kd.M (Kd.int .i64) _ _ _ 1 [.int .i64 1] from rfl) (Reps.one (show Kd.M (Kd.int .i64) _ _ _ 1 [.int .i64 1] from rfl) (Reps.one (show Kd.M (Kd.int .i64) _ _ _ 0 [.int .i64 0] from rfl) (Reps.one (show Kd.M (Kd.int .i64) _ _ _ 0 [.int .i64 0] from rfl) (Reps.none _ _)))))); intro v102 w45 ho46 hb hg_ hnew_; clear hg_ hnew_; (first | rw [← Ny101.out] at ho46 | (simp only [Int.reduceToNat] at ho46; rw [← Ny101.out] at ho46)); have n0_ := Q9a.mk (Kd.rL ho46 (bZ (bI HB.out))); have n1_ := Q9a.mk (bP (bI HB.out) hb); clear HB; have HO103 := n0_; have HB := n1_; clear n0_ n1_; clear hb ho46; obtain ⟨Ao47, co47, eo47⟩ := Kd.R_slice HO103.out; subst eo47) | ((with_reducible refine gC (f := 11) rfl ?_); refine gL (some 8) rfl rfl Try.func11 (by kernel_rfl) rfl #[.agg #[.int .i64 2, .int .i64 4, .slice Ao47 y101.length co47]] rfl (by (try simp only [sm1, sm2, sm3]); first | done | rfl | (simp only [sm4, sm5]; rfl)) ?_; (with_reducible refine (l7made.calls 2 4 _ _ y101 (some q105) _ ?side1 ?side2 A1.out).mono ?_); (case side1 => repeat (first | exact (Kd.R_reads' HO103.out).2.2 | with_reducible first | refine Kd.cA ?_ _ | refine Kd.cN ?_ _ | refine Kd.cD ?_)); (case side2 => exact (Kd.R_reads' HO103.out).2.1); rintro e w48 ⟨b_q105, rfl, hb, hgo⟩; refine ⟨_, rfl, ?_⟩; have n0_ := Q9a.mk (Kd.R_below (rI HO103.out) hb); have n1_ := Q9a.mk (bP (bI HB.out) hb); clear HO103; clear HB; have HO103 := n0_; have HB := n1_; clear n0_ n1_; (try simp only [gfW_none, gfW_some]); have HBZ := HB; clear HB; obtain ⟨wz, rfl⟩ : ∃ z_ : World, z_ = w := ⟨_, rfl⟩; obtain ⟨w, rfl⟩ : ∃ z_ : World, z_ = w48 := ⟨_, rfl⟩; have HB := Q9a.mk (Below.refl w.heap.size w); have HG_q105 := Q9a.mk (hgo : GFok w b_q105 q105); clear hgo) | ((with_reducible refine gC (f := 35) rfl ?_); refine gL (some 13) rfl rfl Try.func35 (by kernel_rfl) rfl #[.pointer (some ⟨b_q105, 0, none⟩), .int .i64 2] rfl (by (try simp only [sm1, sm2, sm3]); first | done | rfl | (simp only [sm4, sm5]; rfl)) ?_; (with_reducible refine (tower_Subfield.calls b_q105 q105 2 t106 t107 _ ?side1 A6.out).mono ?_); (case side1 => exact GFok.belowT HG_q105.out (bI HB.out)); rintro e w49 ⟨v108, rfl, ho0, hb⟩; refine ⟨_, rfl, ?_⟩; have n0_ := Q9a.mk (Kd.rL ho0 (bZ (bI HB.out))); have n1_ := Q9a.mk (bP (bI HB.out) hb); clear HB; have HO109 := n0_; have HB := n1_; clear n0_ n1_; (try clear ho0)) | ((with_reducible refine gC (f := 36) rfl ?_); refine gL (some 18) rfl rfl Try.func36 (by kernel_rfl) rfl #[.pointer (some ⟨b_q105, 0, none⟩), .int .i64 8, .int .i64 1] rfl (by (try simp only [sm1, sm2, sm3]); first | done | rfl | (simp only [sm4, sm5]; rfl)) ?_; (with_reducible refine (tower_Trace.calls k b_q105 q105 8 1 t110 t111 _ ?side1 A7.out).mono ?_); (case side1 => exact GFok.belowT HG_q105.out (bI HB.out)); rintro e w50 ⟨rfl, hb⟩; refine ⟨_, rfl, ?_⟩; have n0_ := Q9a.mk (Kd.R_below (rI HO109.out) hb); have n1_ := Q9a.mk (bP (bI HB.out) hb); clear HO109; clear HB; have HO109 := n0_; have HB := n1_; clear n0_ n1_; (try clear hb); (try clear hb2); (try clear hk); (try clear hi)) | ((with_reducible refine gD (N := 25) rfl ?_); (try (refine gG (by rfl) ?_; dsimp only)); refine Kd.R_lit (Kd.int .i64) _ 3 ?hg (N := 25) ?hd (xs := ([0, 1, 6, 7] : List Int)) (inner := [.int .i64 0, .int .i64 1, .int .i64 6, .int .i64 7]) (ok := fun _ => True) (okp := fun _ => True) ?hr ?hp (fun _ hk => hk) trivial (Below.refl _ _) (Nat.le_refl _) (by simp) ?_; (case hd => rfl); (case hg => rfl); (case hr => first | (go_simp; done) | (go_simp; rfl)); (case hp => exact (Reps.one (show Kd.M (Kd.int .i64) _ _ _ 0 [.int .i64 0] from rfl) (Reps.one (show Kd.M (Kd.int .i64) _ _ _ 1 [.int .i64 1] from rfl) (Reps.one (show Kd.M (Kd.int .i64) _ _ _ 6 [.int .i64 6] from rfl) (Reps.one (show Kd.M (Kd.int .i64) _ _ _ 7 [.int .i64 7] from rfl) (Reps.none _ _)))))); intro v113 w51 ho52 hb hg_ hnew_; clear hg_ hnew_; (first | rw [← Ny112.out] at ho52 | (simp only [Int.reduceToNat] at ho52; rw [← Ny112.out] at ho52)); have n0_ := Q9a.mk (Kd.R_elder' (rI HO109.out) (Kd.R_base ho52) hb); have n1_ := Q9a.mk (Kd.rL (Kd.R_new' ho52 (Kd.R_lt (rI HO109.out))) (bZ (bI HB.out))); have n2_ := Q9a.mk (bP (bI HB.out) hb); clear HO109; clear HB; have HO109 := n0_; have HO114 := n1_; have HB := n2_; clear n0_ n1_ n2_; clear hb ho52; obtain ⟨Ao53, co53, eo53⟩ := Kd.R_slice HO109.out; subst eo53; obtain ⟨Ao54, co54, eo54⟩ := Kd.R_slice HO114.out; subst eo54) | (go_at_call 18; (with_reducible refine (l7same.calls k _ _ t106 _ _ y112 false _ ?side1 ?side2 ?side3 ?side4 A9.out).mono ?_); (case side1 => repeat (first | exact (Kd.R_reads' HO109.out).2.2 | with_reducible first | refine Kd.cA ?_ _ | refine Kd.cN ?_ _ | refine Kd.cD ?_)); (case side2 => exact (Kd.R_reads' HO109.out).2.1); (case side3 => repeat (first | exact (Kd.R_reads' HO114.out).2.2 | with_reducible first | refine Kd.cA ?_ _ | refine Kd.cN ?_ _ | refine Kd.cD ?_)); (case side4 => exact (Kd.R_reads' HO114.out).2.1); rintro e w' ⟨rfl, ⟨nd, rfl⟩⟩))
  go_ret
  exact ⟨by first | rfl | (simp [*, eN, eS] <;> rfl), belowZ HBZ.out (bI HB.out)⟩
 rw [if_neg c8] at H;have c8b0 : (t107 == 0) = false := beq_eq_false_iff_ne.mpr c8;have c8b1 : (t107 != 0) = true := bne_iff_ne.mpr c8;obtain rfl := Option.some.inj H;go_enter Try.func10, Try.ntmps10
 go_wp2_with (first | ((with_reducible refine gD (N := 6) rfl ?_); (try (refine gG (by rfl) ?_; dsimp only)); refine Kd.R_lit (Kd.int .i64) _ 3 ?hg (N := 6) ?hd (xs := ([1, 1, 0, 0] : List Int)) (inner := [.int .i64 1, .int .i64 1, .int .i64 0, .int .i64 0]) (ok := fun _ => True) (okp := fun _ => True) ?hr ?hp (fun _ hk => hk) trivial (Below.refl _ _) (Nat.le_refl _) (by simp) ?_; (case hd => rfl); (case hg => rfl); (case hr => first | (go_simp; done) | (go_simp; rfl)); (case hp => exact (Reps.one (show Kd.M (Kd.int .i64) _ _ _ 1 [.int .i64 1] from rfl) (Reps.one (show Kd.M (Kd.int .i64) _ _ _ 1 [.int .i64 1] from rfl) (Reps.one (show Kd.M (Kd.int .i64) _ _ _ 0 [.int .i64 0] from rfl) (Reps.one (show Kd.M (Kd.int .i64) _ _ _ 0 [.int .i64 0] from rfl) (Reps.none _ _)))))); intro v102 w55 ho56 hb hg_ hnew_; clear hg_ hnew_; (first | rw [← Ny101.out] at ho56 | (simp only [Int.reduceToNat] at ho56; rw [← Ny101.out] at ho56)); have n0_ := Q9a.mk (Kd.rL ho56 (bZ (bI HB.out))); have n1_ := Q9a.mk (bP (bI HB.out) hb); clear HB; have HO103 := n0_; have HB := n1_; clear n0_ n1_; clear hb ho56; obtain ⟨Ao57, co57, eo57⟩ := Kd.R_slice HO103.out; subst eo57) | ((with_reducible refine gC (f := 11) rfl ?_); refine gL (some 8) rfl rfl Try.func11 (by kernel_rfl) rfl #[.agg #[.int .i64 2, .int .i64 4, .slice Ao57 y101.length co57]] rfl (by (try simp only [sm1, sm2, sm3]); first | done | rfl | (simp only [sm4, sm5]; rfl)) ?_; (with_reducible refine (l7made.calls 2 4 _ _ y101 (some q105) _ ?side1 ?side2 A1.out).mono ?_); (case side1 => repeat (first | exact (Kd.R_reads' HO103.out).2.2 | with_reducible first | refine Kd.cA ?_ _ | refine Kd.cN ?_ _ | refine Kd.cD ?_)); (case side2 => exact (Kd.R_reads' HO103.out).2.1); rintro e w58 ⟨b_q105, rfl, hb, hgo⟩; refine ⟨_, rfl, ?_⟩; have n0_ := Q9a.mk (Kd.R_below (rI HO103.out) hb); have n1_ := Q9a.mk (bP (bI HB.out) hb); clear HO103; clear HB; have HO103 := n0_; have HB := n1_; clear n0_ n1_; (try simp only [gfW_none, gfW_some]); have HBZ := HB; clear HB; obtain ⟨wz, rfl⟩ : ∃ z_ : World, z_ = w := ⟨_, rfl⟩; obtain ⟨w, rfl⟩ : ∃ z_ : World, z_ = w58 := ⟨_, rfl⟩; have HB := Q9a.mk (Below.refl w.heap.size w); have HG_q105 := Q9a.mk (hgo : GFok w b_q105 q105); clear hgo) | ((with_reducible refine gC (f := 35) rfl ?_); refine gL (some 13) rfl rfl Try.func35 (by kernel_rfl) rfl #[.pointer (some ⟨b_q105, 0, none⟩), .int .i64 2] rfl (by (try simp only [sm1, sm2, sm3]); first | done | rfl | (simp only [sm4, sm5]; rfl)) ?_; (with_reducible refine (tower_Subfield.calls b_q105 q105 2 t106 t107 _ ?side1 A6.out).mono ?_); (case side1 => exact GFok.belowT HG_q105.out (bI HB.out)); rintro e w59 ⟨v108, rfl, ho0, hb⟩; refine ⟨_, rfl, ?_⟩; have n0_ := Q9a.mk (Kd.rL ho0 (bZ (bI HB.out))); have n1_ := Q9a.mk (bP (bI HB.out) hb); clear HB; have HO109 := n0_; have HB := n1_; clear n0_ n1_; (try clear ho0)) | ((with_reducible refine gC (f := 36) rfl ?_); refine gL (some 18) rfl rfl Try.func36 (by kernel_rfl) rfl #[.pointer (some ⟨b_q105, 0, none⟩), .int .i64 8, .int .i64 1] rfl (by (try simp only [sm1, sm2, sm3]); first | done | rfl | (simp only [sm4, sm5]; rfl)) ?_; (with_reducible refine (tower_Trace.calls k b_q105 q105 8 1 t110 t111 _ ?side1 A7.out).mono ?_); (case side1 => exact GFok.belowT HG_q105.out (bI HB.out)); rintro e w60 ⟨rfl, hb⟩; refine ⟨_, rfl, ?_⟩; have n0_ := Q9a.mk (Kd.R_below (rI HO109.out) hb); have n1_ := Q9a.mk (bP (bI HB.out) hb); clear HO109; clear HB; have HO109 := n0_; have HB := n1_; clear n0_ n1_; (try clear hb); (try clear hb2); (try clear hk); (try clear hi)))
 go_ret
 exact ⟨by first | rfl | (simp [*, eN, eS] <;> rfl), belowZ HBZ.out (bI HB.out)⟩
end
end Go.Proofs.Ytlbddjojhcgpiaa.P
end
-- T1
section
namespace Go.Proofs.Ytlbddjojhcgpiaa.Pl
open Go.RowKit Go.Proofs.Ytlbddjojhcgpiaa.P Go.Proofs.Ytlbddjojhcgpiaa.Hand Go.Proofs.YtlbddjojhcgpiaaW.PrintWords
variable {G : GFv} {P M : Int} {mod : List Int}
theorem wf_lt {n : Int} (h : (Lit.int .i64 n).wf = true) : n < 9223372036854775808 := by
 simp only [Lit.wf, Bool.and_eq_true] at h;have h2 := of_decide_eq_true h.2;have h3 : IntKind.max .i64 = 9223372036854775807 := by decide
 omega
theorem made_cases (P M : Int) (mod : List Int) (hP : P < 9223372036854775808) :
  (l7made.f P M mod = some none ∧ Ev (fun k => r4Check.f k P M mod) 1) ∨ (∃ G : GFv, Is G P M mod ∧ l7made.f P M mod = some (some G) ∧ Ev (fun k => r4Check.f k P M mod) 0) := by
 rcases new_check P M mod hP with ⟨h1, h2⟩ | ⟨G, hG, h1, h2⟩
 ·left
  refine ⟨?_, h2⟩;unfold l7made.f
  rw [if_pos ⟨1, by decide, h2⟩]
 right
 refine ⟨G, hG, ?_, h2⟩;unfold l7made.f
 rw [if_neg ?_, if_pos h2, h1]
 ·rfl
 rintro ⟨c, h3, h4⟩;exact h3 (Ev.uniq h4 h2)
def Dv (G : GFv) (d : Int) : Prop := ∃ e : Nat, d = (e : Int) ∧ 1 ≤ e ∧ e ∣ G.F.m
theorem prime_f (G : GFv) : tower_prime.f G = some ((G.F.p : Int), (G.F.m : Int)) := rfl
open Classical in
theorem dv_val (G : GFv) (d : Int) : (if d ≥ 1 then (if d ≤ (G.F.m : Int) then (if d = 0 then (none : Option Bool) else (some ((Int.tmod (G.F.m : Int) d) == 0))) else (some false)) else (some false)) = some (decide (Dv G d)) := by
 by_cases h1 : d ≥ 1
 ·rw [if_pos h1];obtain ⟨e, rfl⟩ := Int.eq_ofNat_of_zero_le (show 0 ≤ d by omega);by_cases h2 : (e : Int) ≤ (G.F.m : Int)
  ·rw [if_pos h2, if_neg (by omega), Cw.tmod_nat];congr 1
   by_cases h3 : e ∣ G.F.m
   ·rw [decide_eq_true ⟨e, rfl, by omega, h3⟩, Nat.mod_eq_zero_of_dvd h3];rfl
   rw [decide_eq_false (fun ⟨e', he, _, hd⟩ => h3 (by rw [show e = e' by omega]; exact hd))];have : G.F.m % e ≠ 0 := fun h => h3 (Nat.dvd_of_mod_eq_zero h)
   exact beq_eq_false_iff_ne.2 (by omega)
  rw [if_neg h2, decide_eq_false];rintro ⟨e', he, h3, hd⟩;have := Nat.le_of_dvd G.m_pos hd;omega
 rw [if_neg h1, decide_eq_false];rintro ⟨e', he, h3, hd⟩;omega
open Classical in
theorem isDegree_f (G : GFv) (d : Int) : tower_isDegree.f G d = some (decide (Dv G d)) := by
 unfold tower_isDegree.f
 rw [prime_f];exact dv_val G d
open Classical in
theorem divides_f (h : Is G P M mod) (d : Int) : r7Divides.f P M mod d = some (decide (Dv G d)) := by
 obtain ⟨rfl, rfl, rfl⟩ := h;exact dv_val G d
theorem gfm (G : GFv) : Cw.GF.m (Cw.El G.F) = G.F.m := rfl
def frN (G : GFv) (j : Nat) (x : Int) : Int := G.num (Cw.fr j (G.el x))
theorem frN_inj {G : GFv} {i j : Nat} {x y : Int} : frN G i x = frN G j y ↔ Cw.fr i (G.el x) = Cw.fr j (G.el y) := ⟨fun h => G.num_inj h, fun h => by unfold frN; rw [h]⟩
theorem pow_p (G : GFv) (x : Int) : G.pow x (G.F.p : Int) = (frN G 1 x, 0) := by
 rw [G.pow_nat x (by have := G.p_ge; omega)];unfold frN
 rw [Cw.fr_one];rfl
theorem frN_frN (G : GFv) (i j : Nat) (x : Int) : frN G i (frN G j x) = frN G (i + j) x := by
 unfold frN
 rw [G.el_num, Cw.fr_fr]
theorem frN_zero (G : GFv) (x : Int) : frN G 0 x = G.inn x := by
 unfold frN
 rw [Cw.fr_zero, G.num_el]
theorem frN_inn (G : GFv) (j : Nat) (x : Int) : frN G j (G.inn x) = frN G j x := by
 unfold frN
 rw [G.el_inn]
theorem add_zero_inn (G : GFv) (x : Int) : G.add x 0 = G.inn x := by
 unfold Cw.GFv.add
 rw [G.el_zero, Cw.add_zero, G.num_el]
theorem inn_frN (G : GFv) (j : Nat) (x : Int) : G.inn (frN G j x) = frN G j x := G.inn_of (G.num_is _)
theorem frob_loop (G : GFv) (n : Nat) (hn : n ≤ 1000000) : ∀ e i (x : Int), i + e = n → Ev (fun k => tower_Frobenius.l0 k G x (G.F.p : Int) (n : Int) (i : Int)) (frN G e x) := by
 intro e;induction e with
 | zero =>
  intro i x hi;have ha : field_GF_Add.f G x 0 = some (frN G 0 x) := by rw [frN_zero, ← add_zero_inn]; rfl
  refine Ev.step (fun k => by simp only [tower_Frobenius.l0]; rw [if_neg (by omega)]) (Ev.bind (Ev.congr (fun _ => ha) (Ev.now _)) (Ev.now _))
 | succ e ih =>
  intro i x hi;have hp : field_GF_Pow.f G x (G.F.p : Int) = some (frN G 1 x, 0) := congrArg some (pow_p G x);have hi1 : wrap64 ((i : Int) + 1) = ((i + 1 : Nat) : Int) := by rw [w64 (by omega) (by omega)]; rfl
  refine Ev.step (fun k => by simp only [tower_Frobenius.l0]; rw [if_pos (by omega)]) (Ev.bind (Ev.congr (fun _ => hp) (Ev.now _)) ?_);rw [hi1];have := ih (i + 1) (frN G 1 x) (by omega);rwa [frN_frN] at this
theorem frob_int (G : GFv) (x j : Int) : Ev (fun k => tower_Frobenius.f k G x j) (frN G (j % (G.F.m : Int)).toNat x) := by
 have hm := G.m_le;have hm0 := G.m_pos;have h0 := Int.emod_nonneg j (show (G.F.m : Int) ≠ 0 by omega);have h1 := Int.emod_lt_of_pos j (show (0 : Int) < (G.F.m : Int) by omega);have hl := frob_loop G (j % (G.F.m : Int)).toNat (by omega) (j % (G.F.m : Int)).toNat 0 x (by omega);refine Ev.bind (Ev.congr (fun _ => prime_f G) (Ev.now _)) ?_;refine Ev.congr (fun k => ?_) hl;rw [if_neg (by show ¬ (G.F.m : Int) = 0; omega), Int.toNat_of_nonneg h0];show tower_Frobenius.l0 k G x (G.F.p : Int) (Int.tmod (wrap64 ((Int.tmod j (G.F.m : Int)) + (G.F.m : Int))) (G.F.m : Int)) 0 = _
 rw [tmod_two j _ (by omega) (by omega)];rfl
theorem frob_nat (G : GFv) (x : Int) (j : Nat) : Ev (fun k => tower_Frobenius.f k G x (j : Int)) (frN G j x) := by
 have h := frob_int G x (j : Int);have e : ((j : Int) % (G.F.m : Int)).toNat = j % G.F.m := by rw [← Int.natCast_emod, Int.toNat_natCast]
 rw [e] at h
 have e2 : frN G (j % G.F.m) x = frN G j x := by
  unfold frN
  rw [← gfm, Cw.fr_mod]
 rw [e2] at h;exact h
theorem refFrob_loop (h : Is G P M mod) (n : Nat) (hn : n ≤ 1000000) : ∀ e i (x : Int), i + e = n → Ev (fun k => r7Frobenius.l0 k (G.inn x) (n : Int) (i : Int) P M mod) (frN G e x) := by
 intro e;induction e with
 | zero =>
  intro i x hi;rw [frN_zero];refine Ev.step (f := fun _ => some _) (fun k => ?_) (Ev.now _);simp only [r7Frobenius.l0];rw [if_neg (by omega)]
 | succ e ih =>
  intro i x hi;have hp := is_pow h (G.inn x) P;have hP : P = (G.F.p : Int) := h.1.symm;have hi1 : wrap64 ((i : Int) + 1) = ((i + 1 : Nat) : Int) := by rw [w64 (by omega) (by omega)]; rfl
  have hpv : G.pow (G.inn x) P = (frN G 1 x, 0) := by rw [hP, pow_p, frN_inn]
  rw [hpv] at hp;refine Ev.step (fun k => by simp only [r7Frobenius.l0]; rw [if_pos (by omega)]) (Ev.bind hp ?_);rw [hi1];have := ih (i + 1) (frN G 1 x) (by omega);rw [frN_frN, inn_frN] at this;exact this
theorem refFrob (h : Is G P M mod) (x : Int) (j : Nat) (hj : j ≤ 1000000) : Ev (fun k => r7Frobenius.f k P M mod x (j : Int)) (frN G j x) :=
 Ev.bind (is_in h x) (refFrob_loop h j hj j 0 x (by omega))
open Classical in
noncomputable def inB (G : GFv) (d : Nat) (x : Int) : Bool := decide (Cw.fr d (G.el x) = G.el x)
theorem inB_iff {G : GFv} {d : Nat} {x : Int} : inB G d x = true ↔ Cw.fr d (G.el x) = G.el x := by unfold inB; exact decide_eq_true_iff
theorem frN_beq (G : GFv) (d : Nat) (x : Int) : (frN G d x == G.inn x) = inB G d x := by
 rw [← frN_zero];by_cases hh : Cw.fr d (G.el x) = G.el x
 ·rw [inB_iff.2 hh];exact beq_iff_eq.2 (frN_inj.2 (by rw [hh, Cw.fr_zero]))
 rw [Bool.eq_false_iff.mpr (fun h => hh (inB_iff.1 h))];exact beq_eq_false_iff_ne.2 (fun h => hh (by rw [frN_inj.1 h, Cw.fr_zero]))
theorem refIn (h : Is G P M mod) (x : Int) (d : Nat) (hd : d ≤ 1000000) : Ev (fun k => r7In.f k P M mod x (d : Int)) (inB G d x) := by
 refine Ev.bind (refFrob h x d hd) (Ev.bind (is_in h x) (Ev.congr (fun k => ?_) (Ev.now _)));rw [frN_beq]
theorem degree_loop (G : GFv) (x : Int) {n : Nat} (hn : Cw.IsDeg 1 (G.el x) n) (hnm : n ≤ G.F.m) : ∀ e i, i + e = n → 1 ≤ i → Ev (fun k => tower_Degree.l0 k G x (i : Int)) (n : Int) := by
 intro e;have hm := G.m_le;have ha : field_GF_Add.f G x 0 = some (G.inn x) := by rw [← add_zero_inn]; rfl
 induction e with
 | zero =>
  intro i hi h1;obtain rfl : i = n := by omega
  refine Ev.step (fun k => by simp only [tower_Degree.l0]; rfl) (Ev.bind (frob_nat G x i) (Ev.bind (Ev.congr (fun _ => ha) (Ev.now _)) (Ev.congr (fun k => if_pos ?_) (Ev.now _))));have := hn.2.1;rw [Nat.one_mul] at this;rw [← frN_zero];exact frN_inj.2 (by rw [this, Cw.fr_zero])
 | succ e ih =>
  intro i hi h1;have hi1 : wrap64 ((i : Int) + 1) = ((i + 1 : Nat) : Int) := by rw [w64 (by omega) (by omega)]; rfl
  refine Ev.step (fun k => by simp only [tower_Degree.l0]; rfl) (Ev.bind (frob_nat G x i) (Ev.bind (Ev.congr (fun _ => ha) (Ev.now _)) (Ev.congr (fun k => if_neg ?_) ?_)))
  ·intro he;rw [← frN_zero] at he;have h2 := frN_inj.1 he;rw [Cw.fr_zero] at h2;have := hn.2.2 i (by omega) (by omega);rw [Nat.one_mul] at this;exact this h2
  rw [hi1];exact ih (i + 1) (by omega) (by omega)
theorem degree_ev (G : GFv) (x : Int) {n : Nat} (hn : Cw.IsDeg 1 (G.el x) n) (hnm : n ≤ G.F.m) : Ev (fun k => tower_Degree.f k G x) (n : Int) :=
 degree_loop G x hn hnm (n - 1) 1 (by have := hn.1; omega) (Nat.le_refl _)
theorem degree_ex (G : GFv) (x : Int) : ∃ n : Nat, Cw.IsDeg 1 (G.el x) n ∧ n ≤ G.F.m := Cw.deg_ex 1 (G.el x)
theorem deg_dvd {G : GFv} {x : Int} {n : Nat} (hn : Cw.IsDeg 1 (G.el x) n) (k : Nat) : Cw.fr k (G.el x) = G.el x ↔ n ∣ k := by
 have := hn.dvd k;rwa [Nat.one_mul] at this
theorem deg_dvd_m {G : GFv} {x : Int} {n : Nat} (hn : Cw.IsDeg 1 (G.el x) n) : n ∣ G.F.m := (deg_dvd hn _).1 (Cw.fr_m (G.el x))
noncomputable def subs (G : GFv) (d : Nat) : List Int := (upto G.q).filter (inB G d)
theorem subfield_yes_f {d : Nat} (h : Dv G (d : Int)) : tower_Subfield.f G (d : Int) = some (subs G d, 0) := by
 classical
 unfold tower_Subfield.f
 have h9 := isDegree_f G (d : Int);rw [decide_eq_true h] at h9
 have hall : tower_isDegree.f G (d : Int) = some true ∧ ∀ x : Int, ∃ n, n ≠ 0 ∧ Ev (fun k => tower_Degree.f k G x) n := by
  refine ⟨h9, fun x => ?_⟩;obtain ⟨n, hn, hnm⟩ := degree_ex G x;exact ⟨(n : Int), by have := hn.1; omega, degree_ev G x hn hnm⟩
 rw [if_neg (by rw [h9]; decide), dif_pos hall];congr 2
 unfold subL subs
 refine List.filter_congr (fun x _ => ?_);obtain ⟨n, hn, hnm⟩ := degree_ex G x;obtain ⟨_, hev⟩ := Classical.choose_spec (hall.2 x);show decide (Int.tmod (d : Int) (Classical.choose (hall.2 x)) = 0) = inB G d x
 rw [Ev.uniq hev (degree_ev G x hn hnm), Cw.tmod_nat];unfold inB
 apply decide_eq_decide.2
 rw [deg_dvd hn];constructor
 ·intro h0;exact Nat.dvd_of_mod_eq_zero (by omega)
 intro h0;rw [Nat.mod_eq_zero_of_dvd h0]; rfl
end Go.Proofs.Ytlbddjojhcgpiaa.Pl
end
-- T2
section
namespace Go.Proofs.Ytlbddjojhcgpiaa.Pl
open Go.RowKit Go.Proofs.Ytlbddjojhcgpiaa.P Go.Proofs.Ytlbddjojhcgpiaa.Hand Go.Proofs.YtlbddjojhcgpiaaW.PrintWords
variable {G : GFv} {P M : Int} {mod : List Int}
theorem upto_len_le (G : GFv) (p : Int → Bool) (n : Nat) : ((upto n).filter p).length ≤ n := by
 have := List.length_filter_le p (upto n);rwa [upto_length] at this
theorem refSub_loop (h : Is G P M mod) (d : Nat) (hd : d ≤ 1000000) : ∀ e i, i + e = G.q → Ev (fun k => r7Subfield.l0 k (d : Int) ((upto i).filter (inB G d)) (i : Int) P M mod) (subs G d) := by
 intro e;have hq := G.q_le;induction e with
 | zero =>
  intro i hi;obtain rfl : i = G.q := by omega
  have cn : ¬ (G.q : Int) < (G.q : Int) := Int.lt_irrefl _;refine Ev.step (fun k => by simp only [r7Subfield.l0]; rfl) (Ev.bind (is_order04 h) (Ev.congr (fun k => if_neg cn) (Ev.now _)))
 | succ e ih =>
  intro i hi;have hi1 : wrap64 ((i : Int) + 1) = ((i + 1 : Nat) : Int) := by rw [w64 (by omega) (by omega)]; rfl
  have hlen := upto_len_le G (inB G d) i;have hl9 : ((upto i).filter (inB G d)).length < 17592186044416 := by omega
  have hie : i + 1 + e = G.q := by omega
  have cp : (i : Int) < (G.q : Int) := by omega
  have hih := ih (i + 1) hie;rw [upto_succ, List.filter_append] at hih;refine Ev.step (fun k => by simp only [r7Subfield.l0]; rfl) (Ev.bind (is_order04 h) (Ev.congr (fun k => if_pos cp) (Ev.bind (refIn h (i : Int) d hd) ?_)));by_cases hb : inB G d (i : Int) = true
  ·have e1 : List.filter (inB G d) [(i : Int)] = [(i : Int)] := by rw [List.filter_cons_of_pos hb]; rfl
   rw [e1] at hih;refine Ev.congr (fun k => ?_) hih;rw [if_pos hb, if_pos hl9, hi1]
  have e1 : List.filter (inB G d) [(i : Int)] = [] := by rw [List.filter_cons_of_neg hb]; rfl
  rw [e1, List.append_nil] at hih;refine Ev.congr (fun k => ?_) hih;rw [if_neg hb, hi1]
theorem refSubfield (h : Is G P M mod) (d : Nat) (hd : d ≤ 1000000) : Ev (fun k => r7Subfield.f k P M mod (d : Int)) (subs G d) :=
 refSub_loop h d hd G.q 0 (by omega)
theorem same_loop (a b : List Int) (hl : a.length = b.length) (hb : b.length ≤ 65536) : ∀ e i, i + e = b.length → (∀ t, t < i → a.getD t 0 = b.getD t 0) → Ev (fun k => l7same.l0 k a b (a.length : Int) (i : Int)) (decide (a = b)) := by
 intro e;induction e with
 | zero =>
  intro i hi h
  have hab : a = b := by
   apply List.ext_getElem?
   intro j;by_cases hj : j < b.length
   ·have := h j (by omega);rw [List.getD_eq_getElem?_getD, List.getD_eq_getElem?_getD, List.getElem?_eq_getElem hj, List.getElem?_eq_getElem (by omega)] at this;rw [List.getElem?_eq_getElem hj, List.getElem?_eq_getElem (by omega)];exact congrArg some this
   rw [List.getElem?_eq_none (by omega), List.getElem?_eq_none (by omega)]
  rw [decide_eq_true hab];refine Ev.step (f := fun _ => some _) (fun k => ?_) (Ev.now _);simp only [l7same.l0];rw [if_neg (by omega)]
 | succ e ih =>
  intro i hi h;have c1 : (i : Int) < (a.length : Int) := by omega
  have c2 : (0 : Int) ≤ (i : Int) := by omega
  have c3 : (i : Int) < (b.length : Int) := by omega
  have hi1 : wrap64 ((i : Int) + 1) = ((i + 1 : Nat) : Int) := by rw [w64 (by omega) (by omega)]; rfl
  by_cases hab : rd a (i : Int) = rd b (i : Int)
  ·refine Ev.step (fun k => ?_) (ih (i + 1) (by omega) (fun t ht => by
    by_cases hti : t = i
    ·rw [hti]; unfold rd at hab; rw [Int.toNat_natCast] at hab; exact hab
    exact h t (by omega)))
   simp only [l7same.l0];rw [if_pos c1, if_pos c2, if_pos c1, if_pos c3, if_pos hab, hi1]
  rw [decide_eq_false (fun e1 => hab (by rw [e1]))];refine Ev.step (f := fun _ => some _) (fun k => ?_) (Ev.now _);simp only [l7same.l0];rw [if_pos c1, if_pos c2, if_pos c1, if_pos c3, if_neg hab]
theorem same_ev (a b : List Int) (hb : b.length ≤ 65536) : Ev (fun k => l7same.f k a b) (decide (a = b)) := by
 by_cases hl : a.length = b.length
 ·refine Ev.congr (fun k => ?_) (same_loop a b hl hb b.length 0 (by omega) (fun t ht => by omega));unfold l7same.f
  rw [if_pos (by omega)];rfl
 rw [decide_eq_false (fun e => hl (by rw [e]))];refine Ev.congr (fun k => ?_) (Ev.now _);unfold l7same.f
 rw [if_neg (by omega)]
def eachL (G : GFv) (d n : Nat) (x : Int) : List Int := (List.range n).map (fun i => frN G (d * i) x)
theorem eachL_length (G : GFv) (d n : Nat) (x : Int) : (eachL G d n x).length = n := by simp [eachL]
theorem eachL_succ (G : GFv) (d n : Nat) (x : Int) : eachL G d (n + 1) x = eachL G d n x ++ [frN G (d * n) x] := by
 unfold eachL
 rw [List.range_succ, List.map_append]; rfl
theorem eachL_rd (G : GFv) (d n : Nat) (x : Int) {i : Nat} (h : i < n) : rd (eachL G d n x) (i : Int) = frN G (d * i) x := by
 unfold rd
 rw [Int.toNat_natCast, List.getD_eq_getElem?_getD];unfold eachL
 rw [List.getElem?_map, List.getElem?_range h]; rfl
theorem each_loop (G : GFv) (d n : Nat) (hd : d ≤ 8) (hn : n ≤ 8) (x : Int) : ∀ e i, i + e = n → Ev (fun k => tower_each.l0 k G (d : Int) (eachL G d i x ++ List.replicate e 0) (frN G (d * i) x) (n : Int) (i : Int)) (eachL G d n x) := by
 intro e;induction e with
 | zero =>
  intro i hi;obtain rfl : i = n := by omega
  refine Ev.step (f := fun _ => some _) (fun k => ?_) (Ev.now _);simp only [tower_each.l0];rw [if_neg (by omega), List.replicate_zero, List.append_nil]
 | succ e ih =>
  intro i hi;have c1 : (i : Int) < (n : Int) := by omega
  have c2 : (0 : Int) ≤ (i : Int) := by omega
  have hi1 : wrap64 ((i : Int) + 1) = ((i + 1 : Nat) : Int) := by rw [w64 (by omega) (by omega)]; rfl
  have hll : (eachL G d i x).length = i := eachL_length _ _ _ _
  have c3 : (i : Int) < ((eachL G d i x ++ List.replicate (e + 1) 0).length : Int) := by
   rw [List.length_append, hll, List.length_replicate]; omega
  have hset : (eachL G d i x ++ List.replicate (e + 1) (0 : Int)).set i (frN G (d * i) x) = eachL G d (i + 1) x ++ List.replicate e 0 := by
   rw [List.set_append_right _ _ (by omega), hll, Nat.sub_self, List.replicate_succ, List.set_cons_zero, eachL_succ];simp
  have hfr := frob_nat G (frN G (d * i) x) d;rw [frN_frN, show d + d * i = d * (i + 1) by rw [Nat.mul_add, Nat.mul_one, Nat.add_comm]] at hfr;refine Ev.step (fun k => by simp only [tower_each.l0]; rw [if_pos c1, if_pos c2, if_pos c3]) (Ev.bind hfr ?_);rw [Int.toNat_natCast, hset, hi1];exact ih (i + 1) (by omega)
theorem each_ev (G : GFv) (d : Nat) (hd1 : 1 ≤ d) (hdm : d ∣ G.F.m) (x : Int) : Ev (fun k => tower_each.f k G x (d : Int)) (eachL G d (G.F.m / d) x) := by
 have hm := G.m_le;have hdl := Nat.le_of_dvd G.m_pos hdm;have hq : G.F.m / d ≤ G.F.m := Nat.div_le_self _ _;have hw : wrap64 (Int.tdiv (G.F.m : Int) (d : Int)) = ((G.F.m / d : Nat) : Int) := by rw [Cw.tdiv_nat]; exact w64n _ (by omega)
 have hl := each_loop G d (G.F.m / d) (by omega) (by omega) x (G.F.m / d) 0 (by omega);have ha : field_GF_Add.f G x 0 = some (frN G 0 x) := by rw [frN_zero, ← add_zero_inn]; rfl
 refine Ev.bind (Ev.congr (fun _ => prime_f G) (Ev.now _)) ?_;have c0 : ¬ (d : Int) = 0 := by omega
 refine Ev.congr (f := fun k => (field_GF_Add.f G x 0).bind fun t148 => tower_each.l0 k G (d : Int) (List.replicate (G.F.m / d) 0) t148 ((G.F.m / d : Nat) : Int) 0) (fun k => ?_) ?_
 ·show (if (d : Int) = 0 then none else (if 0 ≤ (wrap64 (Int.tdiv (G.F.m : Int) (d : Int))) then (if (wrap64 (Int.tdiv (G.F.m : Int) (d : Int)) : Int).toNat ≤ 35184372088832 then ((some (List.replicate (wrap64 (Int.tdiv (G.F.m : Int) (d : Int)) : Int).toNat 0 : List Int)).bind fun y145 => ((field_GF_Add.f G x 0).bind fun t148 => (tower_each.l0 k G (d : Int) y145 t148 (y145.length : Int) 0))) else (none)) else (none))) = _
  rw [if_neg c0, hw, if_pos (Int.natCast_nonneg _), Int.toNat_natCast, if_pos (by omega)];show ((field_GF_Add.f G x 0).bind fun t148 => (tower_each.l0 k G (d : Int) (List.replicate (G.F.m / d) 0) t148 ((List.replicate (G.F.m / d) (0 : Int)).length : Int) 0)) = _
  rw [List.length_replicate]
 exact Ev.bind (Ev.congr (fun _ => ha) (Ev.now _)) hl
noncomputable def trN (G : GFv) (d : Nat) (x : Int) : Int := G.num (Cw.tr d (G.el x))
theorem num_sm (G : GFv) (d n : Nat) (x : Int) : G.add (G.num (Cw.sm n (fun i => Cw.fr (d * i) (G.el x)))) (frN G (d * n) x) = G.num (Cw.sm (n + 1) (fun i => Cw.fr (d * i) (G.el x))) := by
 unfold frN Cw.GFv.add
 rw [G.el_num, G.el_num, Cw.sm_succ]
theorem sum_loop (G : GFv) (d n : Nat) (hn : n ≤ 8) (x : Int) : ∀ e i, i + e = n → Ev (fun k => field_GF_Sum.l0 k G (G.num (Cw.sm i (fun i => Cw.fr (d * i) (G.el x)))) (eachL G d n x) (n : Int) (i : Int)) (G.num (Cw.sm n (fun i => Cw.fr (d * i) (G.el x)))) := by
 intro e;induction e with
 | zero =>
  intro i hi;obtain rfl : i = n := by omega
  refine Ev.step (f := fun _ => some _) (fun k => ?_) (Ev.now _);simp only [field_GF_Sum.l0];rw [if_neg (by omega)]
 | succ e ih =>
  intro i hi;have c1 : (i : Int) < (n : Int) := by omega
  have c2 : (0 : Int) ≤ (i : Int) := by omega
  have c3 : (i : Int) < ((eachL G d n x).length : Int) := by rw [eachL_length]; omega
  have hi1 : wrap64 ((i : Int) + 1) = ((i + 1 : Nat) : Int) := by rw [w64 (by omega) (by omega)]; rfl
  have hr := eachL_rd G d n x (i := i) (by omega);have hie : i + 1 + e = n := by omega
  have ha : field_GF_Add.f G (G.num (Cw.sm i (fun i => Cw.fr (d * i) (G.el x)))) (frN G (d * i) x) = some (G.num (Cw.sm (i + 1) (fun i => Cw.fr (d * i) (G.el x)))) := congrArg some (num_sm G d i x);refine Ev.step (fun k => by simp only [field_GF_Sum.l0]; rw [if_pos c1, if_pos c2, if_pos c3, hr]) (Ev.bind (Ev.congr (fun _ => ha) (Ev.now _)) ?_);rw [hi1];exact ih (i + 1) hie
theorem trace_ev (G : GFv) (d : Nat) (hd1 : 1 ≤ d) (hdm : d ∣ G.F.m) (x : Int) : Ev (fun k => tower_Trace.f k G x (d : Int)) (trN G d x, 0) := by
 classical
 have hm := G.m_le;have hq : G.F.m / d ≤ G.F.m := Nat.div_le_self _ _;have h9 := isDegree_f G (d : Int);rw [decide_eq_true ⟨d, rfl, hd1, hdm⟩] at h9;have hs := sum_loop G d (G.F.m / d) (by omega) x (G.F.m / d) 0 (by omega);have e0 : G.num (Cw.sm 0 (fun i => Cw.fr (d * i) (G.el x))) = 0 := by rw [Cw.sm_zero, G.num_zero]
 rw [e0] at hs
 have hs' : Ev (fun k => field_GF_Sum.f k G (eachL G d (G.F.m / d) x)) (trN G d x) := by
  refine Ev.congr (fun k => ?_) hs;unfold field_GF_Sum.f
  rw [eachL_length];rfl
 refine Ev.bind (Ev.congr (fun _ => h9) (Ev.now _)) (Ev.congr (fun k => if_pos rfl) (Ev.bind (each_ev G d hd1 hdm x) (Ev.bind hs' (Ev.now _))))
theorem refTrace_loop (h : Is G P M mod) (d : Nat) (hd1 : 1 ≤ d) (hdm : d ∣ G.F.m) (x : Int) : ∀ e i, i + e = G.F.m / d → Ev (fun k => r7Trace.l0 k x (d : Int) (G.num (Cw.sm i (fun i => Cw.fr (d * i) (G.el x)))) (i : Int) P M mod) (trN G d x) := by
 intro e;have hm := G.m_le;have hdl := Nat.le_of_dvd G.m_pos hdm;have hq : G.F.m / d ≤ G.F.m := Nat.div_le_self _ _;have hM : M = (G.F.m : Int) := h.2.1.symm;have hw : wrap64 (Int.tdiv M (d : Int)) = ((G.F.m / d : Nat) : Int) := by rw [hM, Cw.tdiv_nat]; exact w64n _ (by omega)
 have c0 : ¬ (d : Int) = 0 := by omega
 induction e with
 | zero =>
  intro i hi;obtain rfl : i = G.F.m / d := by omega
  refine Ev.step (f := fun _ => some _) (fun k => ?_) (Ev.now _);simp only [r7Trace.l0];rw [if_neg c0, hw, if_neg (by omega)];rfl
 | succ e ih =>
  intro i hi;have hi1 : wrap64 ((i : Int) + 1) = ((i + 1 : Nat) : Int) := by rw [w64 (by omega) (by omega)]; rfl
  have cp : (i : Int) < ((G.F.m / d : Nat) : Int) := by omega
  have hie : i + 1 + e = G.F.m / d := by omega
  have hdb : d * i ≤ 1000000 := Nat.le_trans (Nat.mul_le_mul (show d ≤ 8 by omega) (show i ≤ 8 by omega)) (by decide);have hwi : wrap64 ((d : Int) * (i : Int)) = ((d * i : Nat) : Int) := by rw [← Int.natCast_mul]; exact w64n _ (Nat.lt_of_le_of_lt hdb (by decide))
  have ha := is_add h (G.num (Cw.sm i (fun i => Cw.fr (d * i) (G.el x)))) (frN G (d * i) x);rw [num_sm] at ha;refine Ev.step (fun k => by simp only [r7Trace.l0]; rw [if_neg c0, hw, if_pos cp, hwi]) (Ev.bind (refFrob h x (d * i) hdb) (Ev.bind ha ?_));rw [hi1];exact ih (i + 1) hie
theorem refTrace (h : Is G P M mod) (d : Nat) (hd1 : 1 ≤ d) (hdm : d ∣ G.F.m) (x : Int) : Ev (fun k => r7Trace.f k P M mod x (d : Int)) (trN G d x) := by
 have hl := refTrace_loop h d hd1 hdm x (G.F.m / d) 0 (by omega);have e0 : G.num (Cw.sm 0 (fun i => Cw.fr (d * i) (G.el x))) = 0 := by rw [Cw.sm_zero, G.num_zero]
 rw [e0] at hl;exact hl
end Go.Proofs.Ytlbddjojhcgpiaa.Pl
end
-- T3
section
namespace Go.Proofs.Ytlbddjojhcgpiaa.Pl
open Go.RowKit Go.Proofs.Ytlbddjojhcgpiaa.P Go.Proofs.Ytlbddjojhcgpiaa.Hand Go.Proofs.YtlbddjojhcgpiaaW.PrintWords
theorem ev_of {α : Type} {g : Nat → Option α} {r : α} (n : Nat) (h : ∀ j, g (j + n) = some r) : Ev g r := ⟨n, fun k hk => by
 obtain ⟨j, rfl⟩ : ∃ j, k = j + n := ⟨k - n, by omega⟩;exact h j⟩
theorem ex_check : Ev (fun k => r4Check.f k 2 4 [1, 1, 0, 0]) 0 := ev_of 200 (fun j => by kernel_rfl)
theorem ex_sub : Ev (fun k => r7Subfield.f k 2 4 [1, 1, 0, 0] 2) [0, 1, 6, 7] := ev_of 200 (fun j => by kernel_rfl)
theorem ex_trace : Ev (fun k => r7Trace.f k 2 4 [1, 1, 0, 0] 8 1) 1 := ev_of 200 (fun j => by kernel_rfl)
theorem ex_in1 : Ev (fun k => r7In.f k 2 4 [1, 1, 0, 0] 2 1) false := ev_of 200 (fun j => by kernel_rfl)
theorem ex_in2 : Ev (fun k => r7In.f k 2 4 [1, 1, 0, 0] 2 2) false := ev_of 200 (fun j => by kernel_rfl)
theorem ex_field : ∃ G : GFv, l7made.f 2 4 [1, 1, 0, 0] = some (some G) ∧ tower_Subfield.f G 2 = some ([0, 1, 6, 7], 0) ∧ Ev (fun k => tower_Trace.f k G 8 1) (1, 0) ∧ Ev (fun k => tower_Degree.f k G 2) 4 := by
 rcases made_cases 2 4 [1, 1, 0, 0] (by decide) with ⟨_, h⟩ | ⟨G, hG, h1, _⟩
 ·have := Ev.uniq h ex_check
  cases this
 have hm : G.F.m = 4 := by have := hG.2.1; omega
 refine ⟨G, h1, ?_, ?_, ?_⟩
 ·have h2 := subfield_yes_f (G := G) (d := 2) ⟨2, rfl, by decide, by rw [hm]; decide⟩;rw [Ev.uniq (refSubfield hG 2 (by decide)) ex_sub] at h2;exact h2
 ·have h2 := trace_ev G 1 (by decide) (Nat.one_dvd _) 8;rw [Ev.uniq (refTrace hG 1 (by decide) (Nat.one_dvd _) 8) ex_trace] at h2;exact h2
 obtain ⟨n, hn, hnm⟩ := degree_ex G 2;have hd := deg_dvd_m hn;rw [hm] at hd hnm;have i1 := Ev.uniq (refIn hG 2 1 (by decide)) ex_in1;have i2 := Ev.uniq (refIn hG 2 2 (by decide)) ex_in2
 have n1 : ¬ n ∣ 1 := fun h => by
  rw [inB_iff.2 ((deg_dvd hn 1).2 h)] at i1
  cases i1
 have n2 : ¬ n ∣ 2 := fun h => by
  rw [inB_iff.2 ((deg_dvd hn 2).2 h)] at i2
  cases i2
 have h4 : n = 4 := by
  have h0 := hn.1;match n, hnm, hd, n1, n2, h0 with
  | 1, _, _, n1, _, _ => exact absurd (Nat.dvd_refl _) n1
  | 2, _, _, _, n2, _ => exact absurd (Nat.dvd_refl _) n2
  | 3, _, hd, _, _, _ => exact absurd hd (by decide)
  | 4, _, _, _, _, _ => rfl
 subst h4;exact degree_ev G 2 hn (by rw [hm]; decide)
theorem ex_same : Ev (fun k => l7same.f k [0, 1, 6, 7] [0, 1, 6, 7]) true := by
 have := same_ev [0, 1, 6, 7] [0, 1, 6, 7] (by decide);rwa [decide_eq_true rfl] at this
end Go.Proofs.Ytlbddjojhcgpiaa.Pl
end
-- T4
section
namespace Go.Proofs.Ytlbddjojhcgpiaa.Pl
open Go.RowKit Go.Proofs.Ytlbddjojhcgpiaa.P Go.Proofs.Ytlbddjojhcgpiaa.Hand Go.Proofs.YtlbddjojhcgpiaaW.PrintWords
theorem subs_len (G : GFv) {d : Nat} (h1 : 1 ≤ d) (hd : d ∣ G.F.m) : (subs G d).length = G.F.p ^ d := by
 have h := (Cw.sub_count (K := Cw.El G.F) (d := d) hd (by omega)).2;have e : (Cw.GF.els (K := Cw.El G.F)) = (List.range G.q).map (fun n => Cw.El.dec G.F n) := rfl;rw [e, List.filter_map, List.length_map] at h;unfold subs upto
 rw [List.filter_map, List.length_map]
 have e2 : List.filter ((inB G d) ∘ fun i : Nat => (i : Int)) (List.range G.q) = List.filter ((fun x : Cw.El G.F => decide (Cw.fr d x = x)) ∘ fun n => Cw.El.dec G.F n) (List.range G.q) := by
  refine List.filter_congr (fun n hn => ?_);have hn' := List.mem_range.1 hn
  have hel : G.el ((n : Nat) : Int) = Cw.El.dec G.F n := by
   unfold Cw.GFv.el
   rw [G.inn_of ⟨by omega, by omega⟩, Int.toNat_natCast]
  show inB G d (n : Int) = decide (Cw.fr d (Cw.El.dec G.F n) = Cw.El.dec G.F n)
  unfold inB
  rw [hel]
 rw [e2];exact h
end Go.Proofs.Ytlbddjojhcgpiaa.Pl
end
-- T7
section
namespace Go.Proofs.Ytlbddjojhcgpiaa.Pl
open Go.RowKit Go.Proofs.Ytlbddjojhcgpiaa.P Go.Proofs.Ytlbddjojhcgpiaa.Hand Go.Proofs.YtlbddjojhcgpiaaW.PrintWords
theorem mem_upto {n : Nat} {x : Int} : x ∈ upto n ↔ 0 ≤ x ∧ x < (n : Int) := by
 unfold upto
 rw [List.mem_map];constructor
 ·rintro ⟨i, hi, rfl⟩;have := List.mem_range.1 hi;omega
 rintro ⟨h1, h2⟩;exact ⟨x.toNat, List.mem_range.2 (by omega), by omega⟩
theorem mem_subs {G : GFv} {d : Nat} {x : Int} : x ∈ subs G d ↔ G.is x ∧ Cw.fr d (G.el x) = G.el x := by
 unfold subs
 rw [List.mem_filter, mem_upto, inB_iff];exact Iff.rfl
theorem num_mem_subs {G : GFv} {d : Nat} {z : Cw.El G.F} (h : Cw.fr d z = z) : G.num z ∈ subs G d := mem_subs.2 ⟨G.num_is z, by rw [G.el_num]; exact h⟩
open Classical in
noncomputable def memB (l : List Int) (i : Nat) (c : Nat) : Bool := decide (∃ t, t < i ∧ l.getD t 0 = (c : Int))
theorem memB_succ {l : List Int} {i q : Nat} {y : Nat} (hy : l.getD i 0 = (y : Int)) (hq : y < q) : (btab q (memB l i)).set y true = btab q (memB l (i + 1)) := by
 refine set_btab _ _ hq (fun c _ => ?_);unfold memB
 by_cases hc : c = y
 ·rw [if_pos hc];exact decide_eq_true ⟨i, by omega, by rw [hy, hc]⟩
 rw [if_neg hc];apply decide_eq_decide.2
 constructor
 ·rintro ⟨t, ht, e⟩;refine ⟨t, ?_, e⟩;by_cases hti : t = i
  ·rw [hti, hy] at e;exact absurd (Int.ofNat.inj e).symm hc
  omega
 rintro ⟨t, ht, e⟩;exact ⟨t, by omega, e⟩
end Go.Proofs.Ytlbddjojhcgpiaa.Pl
end
