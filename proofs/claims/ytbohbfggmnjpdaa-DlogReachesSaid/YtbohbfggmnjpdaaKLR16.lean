/- What dlogReaches_holds needs: texts Hp, put together. -/
import Derived.Test.YtbohbfggmnjpdaaKLR15
import Derived.Laws.StructEq
set_option linter.unusedVariables false
set_option linter.unusedSimpArgs false
-- Hp
section
namespace Go.Proofs.Ytbohbfggmnjpdaa.Hand
noncomputable section
open Go.RowKit Go.Shelf Go.Proofs.Ytbohbfggmnjpdaa.P Go.Proofs.YtbohbfggmnjpdaaW.PrintWords
attribute [local go_sem] Oper.semAt_some
theorem keeps_below {W W' : World} (h : Below W.heap.size W W') : KeepsOthers W W' := ⟨h.size, fun k o hk _ => (h.block k (Array.getElem?_eq_some_iff.1 hk).1).trans hk⟩
theorem Boxed.belowT {W W' : World} {B : Nat} {t : TypeId} {v : Value} (h : Boxed W B t v) (hb : Below W.heap.size W W') : Boxed W' B t v := (hb.block B h.lt).trans h
open Classical in
def dlog_Primitive.f (G : GFv) : Option Int :=
 if h : ∀ x : Int, ∃ b, Ev (fun k => dlog_IsPrimitive.f k G x) b then some (((upto G.q).find? (fun x => Classical.choose (h x))).getD 0) else none
set_option maxRecDepth 100000 in
set_option maxHeartbeats 2000000 in
theorem primitive_walk (gb : Nat) (G : GFv) (b : Int → Bool) (hall : ∀ x : Int, Ev (fun k => dlog_IsPrimitive.f k G x) (b x)) (w : World) (hg0 : GFok w gb G) :
  Calls Try.prog 17 #[.pointer (some ⟨gb, 0, none⟩)] w fun e w' => e = .returned (.int .i64 (((upto G.q).find? b).getD 0)) ∧ Below w.heap.size w w' := by
 refine (callsIn_wide (n := 3)).1 ?_
 refine callsIn_of_wp_marks Try.func17 rfl trivial ?_ rfl
 simp only [Try.ntmps17, List.size_toArray, List.length_cons, List.length_nil, Nat.reduceAdd, Nat.reduceSub, Array.replicate_succ, Array.replicate_zero, List.push_toArray, List.append_toArray, List.nil_append, List.cons_append]
 gi_wp2_with (refine ⟨trivial, ?_⟩; gi_at_call 45; refine (elements_in Fence.wide _ trivial rfl _ _).mono ?_; rintro e w' ⟨rfl, rfl⟩)
 have b0 := Boxed.new w 29 (.pointer (some ⟨gb, 0, none⟩))
 have b1 := Boxed.new (w.alloc (.cells #[.pointer (some ⟨gb, 0, none⟩)] 29)) 3 (.int .i64 0)
 have b2 := Boxed.new ((w.alloc (.cells #[.pointer (some ⟨gb, 0, none⟩)] 29)).alloc (.cells #[.int .i64 0] 3)) 29 (.pointer (some ⟨gb, 0, none⟩))
 simp only [World.size_alloc] at b1 b2
 have hB0 : Below w.heap.size w (((w.alloc (.cells #[.pointer (some ⟨gb, 0, none⟩)] 29)).alloc (.cells #[.int .i64 0] 3)).alloc (.cells #[.pointer (some ⟨gb, 0, none⟩)] 29)) := (((Below.refl _ w).alloc (Nat.le_refl _) _).alloc (by simp) _).alloc (by simp; omega) _
 refine wpIn_rangeFunc_ownF rfl (by omega) (gf := 63) (lb := #[.pointer (some ⟨w.heap.size + 1 + 1, 0, none⟩)]) rfl trivial (enters_of Try.func63 (by kernel_rfl) rfl)
  (elements_stops Fence.wide _ trivial rfl (by omega) (w.heap.size + 1 + 1) gb w.heap.size G _ (by simp) b2.cell (hg0.below hB0)) belowK_t (belowK_b (by simp; omega)) (Below.refl _ _) (fun _ => rfl)
  (fun pre W => ((∀ y ∈ pre, b y = false) ∧ Boxed W w.heap.size 29 (.pointer (some ⟨gb, 0, none⟩)) ∧ Boxed W (w.heap.size + 1) 3 (.int .i64 0)) ∧ Below w.heap.size w W)
  (fun c pre W => (c = .ret ∧ ∃ pre' x, pre = pre' ++ [x] ∧ (∀ y ∈ pre', b y = false) ∧ b x = true ∧ Boxed W (w.heap.size + 1) 3 (.int .i64 x)) ∧ Below w.heap.size w W)
  (OwnFrom.and (OwnFrom.and (ownFrom_pure _ _) (OwnFrom.and (Own.from (boxed_own _ _ _) _) (Own.from (boxed_own _ _ _) _))) (ownFrom_below (Nat.le_refl _) (by simp; omega)))
  (fun c => OwnFrom.and (Own.from (fun s A B row hs hg hr => by
   obtain ⟨h1, pre', x, h2, h3, h4, h5⟩ := hs
   exact ⟨h1, pre', x, h2, h3, h4, boxed_own (β := Unit) _ _ (fun _ => Value.int .i64 x) () A B row h5 hg hr⟩) _) (ownFrom_below (Nat.le_refl _) (by simp; omega)))
  ⟨⟨by simp, (b0.alloc _).alloc _, b1.alloc _⟩, hB0⟩
  (fun x => { tmps := #[.pointer (some ⟨gb, 0, none⟩), .pointer (some ⟨w.heap.size, 0, none⟩), .pointer (some ⟨w.heap.size + 1, 0, none⟩), .int .i64 x, .pointer (some ⟨gb, 0, none⟩), .func (.func 63) #[] #[.pointer (some ⟨w.heap.size + 1 + 1, 0, none⟩)], .int .i64 x, undef, undef, undef, undef], defers := [] }) ?assign ?body ?done ?stop
 case assign =>
  intro l x W K hK
  gi_wp2
  exact hK
 case body =>
  rintro l pre x W ⟨⟨hp, bG, bR⟩, hB⟩ _
  have hGW : GFok W gb G := hg0.below hB
  have hcG := bG.cell
  obtain ⟨k, hk⟩ := (hall x).rounds
  by_cases hbx : b x = true
  ·rw [hbx] at hk
   gi_wp2_with (refine ⟨trivial, ?_⟩; gi_at_call 19; refine (CallsIn.inRound l (callsIn_wide.2 (dlog_IsPrimitive.calls k gb G x true W hGW hk))).mono ?_; rintro e w' ⟨rfl, hbW⟩; have bR2 := Boxed.belowT bR hbW; have hc2 := bR2.cell; have hf2 := bR2.frozen)
   exact ⟨(keeps_below hbW).trans (KeepsOthers.setCell _ _ _), ⟨rfl, pre, x, rfl, hp, hbx, bR2.set _⟩, (hB.trans (hbW.mono hB.size)).setCell (p := ⟨w.heap.size + 1, 0, none⟩) (by simp) _⟩
  ·have hbf : b x = false := Bool.eq_false_iff.mpr hbx
   rw [hbf] at hk
   gi_wp2_with (refine ⟨trivial, ?_⟩; gi_at_call 19; refine (CallsIn.inRound l (callsIn_wide.2 (dlog_IsPrimitive.calls k gb G x false W hGW hk))).mono ?_; rintro e w' ⟨rfl, hbW⟩)
   exact ⟨keeps_below hbW, hbW.mono hB.size, ⟨fun y hy => (List.mem_append.1 hy).elim (hp y) (fun e => by simp at e; rw [e]; exact hbf), Boxed.belowT bG hbW, Boxed.belowT bR hbW⟩, hB.trans (hbW.mono hB.size)⟩
 case done =>
  rintro D ys W hD rfl ⟨⟨hp, bG, bR⟩, hB⟩ hK
  have hcr := bR.cell
  have hfr := bR.frozen
  gi_wp2
  have hK' := (KeepsOthers.setCell W ⟨w.heap.size + 1, 0, none⟩ (.int .i64 0)).same D _ hK rfl
  refine ⟨by simp, .inl ⟨_, _, rfl, run_takeDeferred hK', ?_⟩⟩
  have hc5 := cell_kept (World.cell?_setCell_same' W ⟨w.heap.size + 1, 0, none⟩ (.int .i64 0) (by rw [hcr]; rfl)) (grownBy_putObj' _ D (.deferred none)) (fun r e => by cases e; exact ⟨_, hK', rfl⟩)
  have hnone : (upto G.q).find? b = none := List.find?_eq_none.2 (fun y hy => by rw [hp y hy]; decide)
  refine ⟨.int .i64 0, ?_, by rw [hnone]; rfl, (hB.setCell (p := ⟨w.heap.size + 1, 0, none⟩) (by simp) _).trans (belowK_b (w := w) (Nat.le_refl _) _ D _ _ (by simp at hD; omega) hK' rfl rfl)⟩
  simp [results, Try.f17, go_sem, hc5]
 case stop =>
  rintro D c pre W hD hpre ⟨⟨rfl, pre', x, rfl, hp, hbx, bR⟩, hB⟩ hK
  have hcr := bR.cell
  gi_wp2
  refine ⟨by simp, .inl ⟨_, _, rfl, run_takeDeferred hK, ?_⟩⟩
  have hc5 := cell_kept hcr (grownBy_putObj' _ D (.deferred none)) (fun r e => by cases e; exact ⟨_, hK, rfl⟩)
  have hsome : (upto G.q).find? b = some x := by
   obtain ⟨t, ht⟩ := hpre
   rw [← ht, List.append_assoc, List.find?_append, List.find?_eq_none.2 (fun y hy => by rw [hp y hy]; decide)]
   simp [hbx]
  refine ⟨.int .i64 x, ?_, by rw [hsome]; rfl, hB.trans (belowK_b (w := w) (Nat.le_refl _) W D _ _ (by simp at hD; omega) hK rfl rfl)⟩
  simp [results, Try.f17, go_sem, hc5]
theorem dlog_Primitive.calls (b_a0 : Nat) (a0 : GFv) (r : Int) (w : World) (hg0 : GFok w b_a0 a0) (h : dlog_Primitive.f a0 = some r) :
  Calls Try.prog 17 #[.pointer (some ⟨b_a0, 0, none⟩)] w fun e w' => e = .returned (.int .i64 r) ∧ Below w.heap.size w w' := by
 unfold dlog_Primitive.f at h
 split at h
 ·rename_i hall
  obtain rfl := Option.some.inj h
  exact primitive_walk b_a0 a0 (fun x => Classical.choose (hall x)) (fun x => Classical.choose_spec (hall x)) w hg0
 ·cases h
end
end Go.Proofs.Ytbohbfggmnjpdaa.Hand
end
