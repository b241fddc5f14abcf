/- What towerCoordinates_holds needs: texts Hs, put together. -/
import Derived.Test.YtlbddjojhcgpiaaKBC12
import Derived.Laws.CopyOwn
import Derived.Laws.StructEq
import Derived.Shelf.RegionOpen
set_option linter.unusedVariables false
set_option linter.unusedSimpArgs false
set_option linter.unusedSectionVars false
set_option maxHeartbeats 8000000
set_option maxRecDepth 100000
-- Hs
section
namespace Go.Proofs.Ytlbddjojhcgpiaa.Hand
noncomputable section
open Go.RowKit Go.Shelf Go.Proofs.Ytlbddjojhcgpiaa.P Go.Proofs.YtlbddjojhcgpiaaW.PrintWords
attribute [local go_sem] Oper.semAt_some
theorem keeps_below {W W' : World} (h : Below W.heap.size W W') : KeepsOthers W W' := ⟨h.size, fun k o hk _ => (h.block k (Array.getElem?_eq_some_iff.1 hk).1).trans hk⟩
theorem Boxed.belowT {W W' : World} {B : Nat} {t : TypeId} {v : Value} (h : Boxed W B t v) (hb : Below W.heap.size W W') : Boxed W' B t v := (hb.block B h.lt).trans h
def subL (d : Int) (dg : Int → Int) (l : List Int) : List Int := l.filter (fun x => decide (Int.tmod d (dg x) = 0))
theorem subL_hit (d : Int) (dg : Int → Int) (pre : List Int) {x : Int} (h : Int.tmod d (dg x) = 0) : subL d dg (pre ++ [x]) = subL d dg pre ++ [x] := by simp [subL, h]
theorem subL_miss (d : Int) (dg : Int → Int) (pre : List Int) {x : Int} (h : ¬ Int.tmod d (dg x) = 0) : subL d dg (pre ++ [x]) = subL d dg pre := by simp [subL, h]
open Classical in
def tower_Subfield.f (G : GFv) (d : Int) : Option (List Int × Int) :=
 if tower_isDegree.f G d = some false then some ([], 6)
 else if h : tower_isDegree.f G d = some true ∧ ∀ x : Int, ∃ n, n ≠ 0 ∧ Ev (fun k => tower_Degree.f k G x) n then some (subL d (fun x => Classical.choose (h.2 x)) (upto G.q), 0)
 else none
theorem infoI : (Try.prog.info? 3).map (fun i => (i.zero, i.size, i.bytes)) = some (some (.int .i64 0), 1, 8) := by kernel_rfl
set_option maxHeartbeats 2000000 in
theorem subfield_no (gb : Nat) (G : GFv) (d : Int) (hd : tower_isDegree.f G d = some false) (w : World) (hg0 : GFok w gb G) :
  Calls Try.prog 35 #[.pointer (some ⟨gb, 0, none⟩), .int .i64 d] w fun e w' => e = .returned (.tuple #[.slice none 0 0, .int .i64 6]) ∧ Below w.heap.size w w' := by
 refine (callsIn_wide (n := 3)).1 ?_;refine callsIn_of_wp_marks Try.func35 rfl trivial ?_ rfl;simp only [Try.ntmps35, List.size_toArray, List.length_cons, List.length_nil, Nat.reduceAdd, Nat.reduceSub, Array.replicate_succ, Array.replicate_zero, List.push_toArray, List.append_toArray, List.nil_append, List.cons_append];have hB0 : Below w.heap.size w ((w.alloc (.cells #[.pointer (some ⟨gb, 0, none⟩)] 26)).alloc (.cells #[.int .i64 d] 3)) := ((Below.refl _ w).alloc (Nat.le_refl _) _).alloc (by simp) _;gi_wp2_with (refine ⟨trivial, ?_⟩; gi_at_call 46; refine (callsIn_wide.2 (tower_isDegree.calls gb G d false _ (hg0.below hB0) hd)).mono ?_; rintro e w2 ⟨rfl, hb2⟩)
 exact ⟨_, results_tmp2 rfl _ _ _, rfl, hB0.trans (hb2.mono hB0.size)⟩
set_option maxHeartbeats 4000000 in
theorem subfield_yes (gb : Nat) (G : GFv) (d : Int) (dg : Int → Int) (hd : tower_isDegree.f G d = some true) (hall : ∀ x : Int, dg x ≠ 0 ∧ Ev (fun k => tower_Degree.f k G x) (dg x)) (w : World) (hg0 : GFok w gb G) :
  Calls Try.prog 35 #[.pointer (some ⟨gb, 0, none⟩), .int .i64 d] w fun e w' => ∃ v, e = .returned (.tuple #[v, .int .i64 0]) ∧ w'.ownsRow w.heap.size 3 1 v (subL d dg (upto G.q)).length ((subL d dg (upto G.q)).map (Value.int .i64)) ∧ Below w.heap.size w w' := by
 obtain ⟨i0, hi, hz0, hz1, hz2⟩ := info_parts infoI;have hq := G.q_le;refine (callsIn_wide (n := 3)).1 ?_;refine callsIn_of_wp_marks Try.func35 rfl trivial ?_ rfl;simp only [Try.ntmps35, List.size_toArray, List.length_cons, List.length_nil, Nat.reduceAdd, Nat.reduceSub, Array.replicate_succ, Array.replicate_zero, List.push_toArray, List.append_toArray, List.nil_append, List.cons_append];have hB0 : Below w.heap.size w ((w.alloc (.cells #[.pointer (some ⟨gb, 0, none⟩)] 26)).alloc (.cells #[.int .i64 d] 3)) := ((Below.refl _ w).alloc (Nat.le_refl _) _).alloc (by simp) _;have b0 := (Boxed.new w 26 (.pointer (some ⟨gb, 0, none⟩))).alloc (.cells #[.int .i64 d] 3);have b1 := Boxed.new (w.alloc (.cells #[.pointer (some ⟨gb, 0, none⟩)] 26)) 3 (.int .i64 d);simp only [World.size_alloc] at b1;gi_wp2_with (first | (refine ⟨trivial, ?_⟩; gi_at_call 46; refine (callsIn_wide.2 (tower_isDegree.calls gb G d true _ (hg0.below hB0) hd)).mono ?_; rintro e w2 ⟨rfl, hb2⟩; have b02 := Boxed.belowT b0 hb2; have b12 := Boxed.belowT b1 hb2; have hcG := (b02.alloc (.cells #[.slice none 0 0] 22)).cell; have hcG2 := b02.cell) | (refine ⟨trivial, ?_⟩; gi_at_call 47; refine (elements_in Fence.wide _ trivial rfl _ _).mono ?_; rintro e w' ⟨rfl, rfl⟩))
 have hB2 : Below w.heap.size w w2 := hB0.trans (hb2.mono hB0.size);have hsz2 : w.heap.size + 2 ≤ w2.heap.size := by have := hb2.size; simp at this; omega
 have bO := Boxed.new w2 22 (.slice none 0 0);have bN := Boxed.new (w2.alloc (.cells #[.slice none 0 0] 22)) 26 (.pointer (some ⟨gb, 0, none⟩));simp only [World.size_alloc] at bN;have hB3 : Below w.heap.size w ((w2.alloc (.cells #[.slice none 0 0] 22)).alloc (.cells #[.pointer (some ⟨gb, 0, none⟩)] 26)) := (hB2.alloc (by omega) _).alloc (by simp; omega) _
 refine wpIn_rangeFunc_ownG rfl (by omega) (gf := 73) (lb := #[.pointer (some ⟨w2.heap.size + 1, 0, none⟩)]) rfl trivial (enters_of Try.func73 (by kernel_rfl) rfl)
  (elements_stops Fence.wide _ trivial rfl (by omega) (w2.heap.size + 1) gb w.heap.size G _ (by simp) bN.cell (hg0.below hB3)) belowK_t (belowK_b (by simp; omega)) (Below.refl _ _) (fun _ => rfl)
  (fun pre W => ((∃ v, Boxed W w2.heap.size 22 v ∧ W.ownsRow w2.heap.size 3 1 v (subL d dg pre).length ((subL d dg pre).map (Value.int .i64)) ∧ (v = .slice none 0 0 ↔ subL d dg pre = [])) ∧ Boxed W w.heap.size 26 (.pointer (some ⟨gb, 0, none⟩)) ∧ Boxed W (w.heap.size + 1) 3 (.int .i64 d)) ∧ Below w.heap.size w W)
  (fun _ _ _ => False)
  (OwnFrom.and (OwnFrom.and (Own.from (holdsRow_own w2.heap.size w2.heap.size 22 3 1 (fun pre => (subL d dg pre).length) (fun pre => (subL d dg pre).map (Value.int .i64)) (fun pre v => v = .slice none 0 0 ↔ subL d dg pre = [])) _) (OwnFrom.and (Own.from (boxed_own _ _ _) _) (Own.from (boxed_own _ _ _) _))) (ownFrom_below (Nat.le_refl _) (by simp; omega)))
  (fun _ _ _ _ _ hs _ _ => hs)
  ⟨⟨⟨_, bO.alloc _, World.ownsRow_nil _ _ _ _, by simp [subL]⟩, (b02.alloc _).alloc _, (b12.alloc _).alloc _⟩, hB3⟩
  (fun x => { tmps := #[.pointer (some ⟨gb, 0, none⟩), .int .i64 d, .pointer (some ⟨w.heap.size, 0, none⟩), .pointer (some ⟨w.heap.size + 1, 0, none⟩), .slice none 0 0, .int .i64 0, .pointer (some ⟨w2.heap.size, 0, none⟩), .int .i64 x, .pointer (some ⟨gb, 0, none⟩), .int .i64 d, .bool true, .bool false, .pointer (some ⟨gb, 0, none⟩), .func (.func 73) #[] #[.pointer (some ⟨w2.heap.size + 1, 0, none⟩)], .int .i64 x, undef, undef, undef, undef, undef, undef, undef, undef, undef, undef, undef], defers := [] }) ?assign ?body ?done ?stop
 case assign =>
  intro l x W K hK;gi_wp2
  exact hK
 case body =>
  rintro l pre x W ⟨⟨⟨v, hv, hrow, hnil⟩, bG, bD⟩, hB⟩ hlt;have hGW : GFok W gb G := hg0.below hB;have hcG := bG.cell;have hcD := bD.cell;obtain ⟨hne, hev⟩ := hall x;obtain ⟨k, hk⟩ := hev.rounds;have hpl : (subL d dg pre).length ≤ pre.length := List.length_filter_le _ _;have hGd : GFok W.drew gb G := hGW.below (Below.drew (Below.refl _ _));have hcall : CallsIn (Fence.wide.inRound l) 0 Try.prog 37 #[.pointer (some ⟨gb, 0, none⟩), .int .i64 x] W.drew (fun e w' => e = .returned (.int .i64 (dg x)) ∧ Below W.drew.heap.size W.drew w') := CallsIn.inRound l (callsIn_wide.2 (tower_Degree.calls k gb G x (dg x) _ hGd hk));have hmx : Try.prog.follows .mixedOrders = true := by kernel_rfl
  have hWs := hv.lt
  have fin : ∀ w', Below W.drew.heap.size W.drew w' → Boxed w' w.heap.size 26 (.pointer (some ⟨gb, 0, none⟩)) ∧ Boxed w' (w.heap.size + 1) 3 (.int .i64 d) ∧ Boxed w' w2.heap.size 22 v ∧ w'.ownsRow w2.heap.size 3 1 v (subL d dg pre).length ((subL d dg pre).map (Value.int .i64)) ∧ Below w.heap.size W w' ∧ KeepsOthers W w' := by
   intro w' hbW;exact ⟨Boxed.belowT (W := W.drew) bG hbW, Boxed.belowT (W := W.drew) bD hbW, Boxed.belowT (W := W.drew) hv hbW, pw_own_below (w := W.drew) hrow hbW, (Below.drew (Below.refl _ W)).trans (hbW.mono hB.size), (KeepsOthers.drew W).trans (keeps_below hbW)⟩
  by_cases hx : Int.tmod d (dg x) = 0
  ·have cb : (Int.tmod d (dg x) == 0) = true := beq_iff_eq.2 hx;gi_wp2
   gi_region_with_o (refine ⟨trivial, ?_⟩; gi_at_call 37; refine hcall.mono ?_; rintro e w' ⟨rfl, hbW⟩; have hcD2 := (Boxed.belowT (W := W.drew) (show Boxed W.drew (w.heap.size + 1) 3 (.int .i64 d) from bD) hbW).cell)
   all_goals (
    rename_i w' hbW hcD2
    obtain ⟨bG2, bD2, hv2, hrow2, hBW, hKW⟩ := fin w' hbW;have hc2 := hv2.cell;have hs2 := hv2.lt;have hB' := hB.trans hBW;gi_wp2_with (gi_at_builtin; refine wpListIn_append_own _ rfl _ _ 22 rfl w2.heap.size 3 i0 (.int .i64 0) 1 8 Try.underlying22 hi hz0 hz1 hz2 rfl (by decide) _ _ _ rfl (hrow2.alloc _) ⟨w'.heap.size, 0, none⟩ 1 1 [.int .i64 x] rfl rfl (cell_one_new _ _ _) (by simp [Value.oneCell']) (by rw [upto_length] at hlt; unfold maxLen; omega) (by rw [upto_length] at hlt; omega) (by simp; omega) ?_; intro v' w1 hown' hgrow _; obtain ⟨g', cap', rfl⟩ := ownsRow_succ hown'; obtain ⟨hv1, hvv2, hr2, hk2, hb2⟩ := hv2.appended (by decide) hrow2 (Nat.le_of_lt hs2) (Nat.le_refl _) hown' hgrow; have hc1 := hv1.cell; have hf1 := hv1.frozen)
    have g1 : Boxed w1 w.heap.size 26 (.pointer (some ⟨gb, 0, none⟩)) := (bG2.alloc _).kept hgrow (fun e => by have := own_base hrow2 _ e.symm; omega);have g2 : Boxed w1 (w.heap.size + 1) 3 (.int .i64 d) := (bD2.alloc _).kept hgrow (fun e => by have := own_base hrow2 _ e.symm; omega);exact ⟨(hKW.trans hk2).from _, hBW.trans (hb2.mono (by omega)), ⟨⟨_, hvv2, by rw [subL_hit d dg pre hx]; simpa using hr2, by rw [subL_hit d dg pre hx]; simp⟩, Boxed.other g1 (by omega) _, Boxed.other g2 (by omega) _⟩, hB.trans (hBW.trans (hb2.mono (by omega)))⟩)
  have cb : (Int.tmod d (dg x) == 0) = false := beq_eq_false_iff_ne.2 hx;gi_wp2
  gi_region_with_o (refine ⟨trivial, ?_⟩; gi_at_call 37; refine hcall.mono ?_; rintro e w' ⟨rfl, hbW⟩; have hcD2 := (Boxed.belowT (W := W.drew) (show Boxed W.drew (w.heap.size + 1) 3 (.int .i64 d) from bD) hbW).cell)
  all_goals (
   rename_i w' hbW hcD2
   obtain ⟨bG2, bD2, hv2, hrow2, hBW, hKW⟩ := fin w' hbW;gi_wp2
   exact ⟨hKW.from _, hBW, ⟨⟨v, hv2, by rw [subL_miss d dg pre hx]; exact hrow2, by rw [subL_miss d dg pre hx]; exact hnil⟩, bG2, bD2⟩, hB.trans hBW⟩)
 case done =>
  rintro D ys W hD rfl ⟨⟨⟨v, hv, hrow, hnil⟩, bG, bD⟩, hB⟩ hK;have hc := hv.cell;gi_wp2
  refine ⟨by simp, .inl ⟨_, _, rfl, run_takeDeferred hK, ?_⟩⟩;exact ⟨_, results_tmp2 rfl _ _ _, v, rfl, own_weaken (ownsRow_putObj hrow _ hK rfl) (by omega), hB.trans (belowK_b (w := w) (Nat.le_refl _) W D _ _ (by simp at hD; omega) hK rfl rfl)⟩
 case stop =>
  rintro D c pre W _ _ h _;exact h.elim
theorem tower_Subfield.calls (b_a0 : Nat) (a0 : GFv) (a1 : Int) (r1 : List Int) (r2 : Int) (w : World) (hg0 : GFok w b_a0 a0) (h : tower_Subfield.f a0 a1 = some (r1, r2)) :
  Calls Try.prog 35 #[.pointer (some ⟨b_a0, 0, none⟩), .int .i64 a1] w fun e w' => ∃ v0_ : Value, e = .returned (.tuple #[v0_, .int .i64 r2]) ∧ Kd.R (Kd.int .i64) 3 w' w.heap.size (fun _ => True) v0_ r1 ∧ Below w.heap.size w w' := by
 unfold tower_Subfield.f at h
 split at h
 ·rename_i hd
  have h' := Option.some.inj h;injection h' with e1 e2
  subst e1;subst e2;exact (subfield_no b_a0 a0 a1 hd w hg0).mono fun e w' ⟨h1, h2⟩ => ⟨_, h1, Kd.R_nil _ _ _ _ _, h2⟩
 split at h
 ·rename_i hh
  have h' := Option.some.inj h;injection h' with e1 e2
  subst e1;subst e2;exact (subfield_yes b_a0 a0 a1 (fun x => Classical.choose (hh.2 x)) hh.1 (fun x => Classical.choose_spec (hh.2 x)) w hg0).mono fun e w' ⟨v, h1, h2, h3⟩ => ⟨v, h1, Kd.R_of_own h2 (fun _ _ => trivial), h3⟩
 cases h
end
end Go.Proofs.Ytlbddjojhcgpiaa.Hand
end
