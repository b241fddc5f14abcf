/- What towerCoordinates_holds needs: texts Hel, put together. -/
import Derived.Test.YtlbddjojhcgpiaaKBC11
import Derived.LoopIn
import Derived.LoopNIn
import Derived.OwnWalkIn
import Derived.RangeFuncBound
import Derived.RangeFuncBox
import Derived.RangeFuncCalls
import Derived.RangeFuncLeaves
import Derived.RangeFuncNested
import Derived.Shelf.Abstract
import Derived.TacticsInMore
set_option linter.unusedVariables false
set_option linter.unusedSimpArgs false
set_option linter.unusedSectionVars false
set_option maxHeartbeats 8000000
set_option maxRecDepth 100000
-- Hel
section
namespace Go.Proofs.Ytlbddjojhcgpiaa.Hand
open Go.RowKit Go.Shelf Go.Proofs.YtlbddjojhcgpiaaW.PrintWords
attribute [local go_sem] Oper.semAt_some
def upto (n : Nat) : List Int := (List.range n).map (fun i : Nat => (i : Int))
theorem upto_succ (n : Nat) : upto (n + 1) = upto n ++ [(n : Int)] := by
 unfold upto
 rw [List.range_succ, List.map_append]; rfl
theorem upto_length (n : Nat) : (upto n).length = n := by simp [upto]
theorem upto_prefix {i n : Nat} (h : i ≤ n) : upto i <+: upto n := by
 obtain ⟨d, rfl⟩ : ∃ d, n = i + d := ⟨n - i, by omega⟩;clear h;induction d with
 | zero => exact List.prefix_refl _
 | succ d ih => rw [← Nat.add_assoc, upto_succ]; exact ih.trans (List.prefix_append _ _)
set_option maxHeartbeats 1000000 in
theorem elements1_in (F : Fence) (n : Nat) (hf : F.fn 73) (hro : F.round = none) (hn : 1 ≤ n) (l Bn gb n₀ : Nat) (G : GFv) (J Jx : List Int → World → Prop)
  (hY : ∀ pre x W, J pre W → pre.length < (upto G.q).length → YieldAt F (n - 1) Try.prog l #[.int .i64 x] W fun e W' =>
   (e = .returned (.bool true) ∧ J (pre ++ [x]) W' ∧ Below n₀ W W') ∨ (e = .returned (.bool false) ∧ Jx (pre ++ [x]) W'))
  (W : World) (hBn : W.cell? ⟨Bn, 0, none⟩ = some (.pointer (some ⟨gb, 0, none⟩))) (hG : GFok W gb G) (h0 : J [] W) :
  CallsIn F n Try.prog 73 #[.func (.yield l) #[] #[], .pointer (some ⟨Bn, 0, none⟩)] W fun e W' => (∃ v, e = .returned v) ∧
   ((∃ ys, ys = upto G.q ∧ J ys W') ∨ (∃ pre, pre <+: upto G.q ∧ Jx pre W')) := by
 have hq3 : W.cell? ⟨gb, 3, none⟩ = some (.int .i64 (G.q : Int)) := by
  obtain ⟨A2, c2, A4, c4, A5, c5, h4, -⟩ := hG;exact (kC h4 3).trans rfl
 have hq := G.q_le;refine callsIn_of_wp Try.func73 rfl hf ?_ hro;simp only [Try.ntmps73, List.size_toArray, List.length_cons, List.length_nil, Nat.reduceAdd, Nat.reduceSub, Array.replicate_succ, Array.replicate_zero, List.push_toArray, List.append_toArray, List.nil_append, List.cons_append];gi_wp2
 gi_loopw [8] (fun v wr => ∃ i : Nat, v = .int .i64 (i : Int) ∧ i ≤ G.q ∧ J (upto i) wr) (fun v _ => G.q - (intOf v).toNat)
 case atStart => exact ⟨0, rfl, Nat.zero_le _, h0⟩
 case round =>
  obtain ⟨i, rfl, hi, hJs⟩ := hrel;by_cases hlt : i < G.q
  ·have hlt' : (i : Int) < (G.q : Int) := by omega
   obtain ⟨fn, tmps, assign, body, hy, hR⟩ := hY (upto i) (i : Int) wr hJs (by rw [upto_length, upto_length]; exact hlt);gi_wp2
   refine hR.mono ?_;rintro e W3 (⟨rfl, hJ3, hk3⟩ | ⟨rfl, hJx3⟩)
   ·gi_wp2
    go_roundw
    case rel => exact ⟨i + 1, by first | rfl | (congr 1; omega) | (rw [show wrap64 ((i : Int) + 1) = ((i + 1 : Nat) : Int) by unfold wrap64; omega]), by omega, by rw [upto_succ]; exact hJ3⟩
    case measure => first | omega | (simp [intOf]; omega)
   gi_wp2
   refine bodyPost_ret (results_none rfl _ _ _) rfl ?_;exact ⟨⟨_, rfl⟩, .inr ⟨upto i ++ [(i : Int)], by rw [← upto_succ]; exact upto_prefix (by omega), hJx3⟩⟩
  have hlt' : ¬ (i : Int) < (G.q : Int) := by omega
  gi_wp2
  go_end0
  obtain rfl : i = G.q := by omega
  first | exact ⟨⟨_, rfl⟩, .inl ⟨upto G.q, rfl, hJs⟩⟩ | exact ⟨⟨_, rfl⟩, .inl hJs⟩
set_option maxHeartbeats 1000000 in
theorem elements_in (F : Fence) (n : Nat) (hf : F.fn 47) (hro : F.round = none) (p0 : Option Addr) (w : World) :
  CallsIn F n Try.prog 47 #[.pointer p0] w fun e w' => e = .returned (.func (.func 73) #[] #[.pointer (some ⟨w.heap.size, 0, none⟩)]) ∧ w' = w.alloc (.cells #[.pointer p0] 26) := by
 refine callsIn_of_wp Try.func47 rfl hf ?_ hro;simp only [Try.ntmps47, List.size_toArray, List.length_cons, List.length_nil, Nat.reduceAdd, Nat.reduceSub, Array.replicate_succ, Array.replicate_zero, List.push_toArray, List.append_toArray, List.nil_append, List.cons_append];gi_wp2
 go_ret
 exact ⟨rfl, rfl⟩
theorem elements_stops (F : Fence) (n : Nat) (hf : F.fn 73) (hro : F.round = none) (hn : 1 ≤ n) (Bn gb n₀ : Nat) (G : GFv) (w : World) (hBn : Bn < w.heap.size)
  (hc : w.cell? ⟨Bn, 0, none⟩ = some (.pointer (some ⟨gb, 0, none⟩))) (hG : GFok w gb G) :
  SeqStopsK F n Try.prog 73 #[.pointer (some ⟨Bn, 0, none⟩)] (fun x : Int => #[Value.int .i64 x]) (Below n₀) (fun ys => ys = upto G.q) (fun pre => pre <+: upto G.q) (upto G.q).length w := fun l J Jx W hW _ _ hY h0 =>
 elements1_in F n hf hro hn l Bn gb n₀ G J Jx hY W ((hW.cell (p := ⟨Bn, 0, none⟩) hBn).trans hc) (hG.below hW) h0
end Go.Proofs.Ytlbddjojhcgpiaa.Hand
end
