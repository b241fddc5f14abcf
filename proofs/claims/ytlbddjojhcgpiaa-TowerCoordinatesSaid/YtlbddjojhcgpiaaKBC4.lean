/- What towerCoordinates_holds needs: texts Cp, put together. -/
import Derived.Test.YtlbddjojhcgpiaaKBC3
import Derived.Laws.CopyOwn
import Derived.Test.YtlbddjojhcgpiaaProg
set_option linter.unusedVariables false
set_option linter.unusedSimpArgs false
set_option linter.unusedSectionVars false
set_option maxHeartbeats 8000000
set_option maxRecDepth 100000
-- Cp
section
namespace Go.Proofs.Ytlbddjojhcgpiaa.Hand
open Go.RowKit Go.Proofs.YtlbddjojhcgpiaaW.PrintWords
def shr1 (l : List Int) : List Int := l.take 1 ++ l.take (l.length - 1)
theorem shr1_length (l : List Int) : (shr1 l).length = l.length := by
 unfold shr1; simp only [List.length_append, List.length_take]; omega
theorem setRow_grown (w : World) (g : Nat) (cs : Array Value) : w.grownBy (w.setRow g cs) (some g) :=
 ⟨rfl, rfl, rfl, by simp, fun k _ hk => setRow_other w g k cs (fun e => hk (by rw [e]))⟩
theorem sizeInt : (Try.prog.info? 3).map (·.size) = some 1 := by kernel_rfl
theorem step_copy_shr {ops : Array Oper} {o : Oper} {a : Act} {w : World} {K : Act → World → Prop} {Q : Exit → Act → World → Prop} {E : Prop} (hgd : o.guard = none) (d s : Operand)
  (ho : o.op = .call { callee := .builtin .copy, args := #[d, s], argTypes := #[22, 22] })
  (g n co : Nat) (x : List Int) (base : Nat) (ok : Nat → Prop)
  (HO : Kd.R (Kd.int .i64) 3 w base ok (.slice (some ⟨g, 0, none⟩) n co) x)
  (dp : Option Addr) (dLen dCap sLen sCap : Nat) (hd : a.eval d = .slice dp dLen dCap) (hdl : dLen = n - 1) (hdp : 1 < n → dp = some ⟨g, 1, none⟩)
  (hs : a.eval s = .slice (some ⟨g, 0, none⟩) sLen sCap) (hsl : sLen = n - 1)
  (h : ∀ w', Kd.R (Kd.int .i64) 3 w' base ok (.slice (some ⟨g, 0, none⟩) n co) (shr1 x) → w.grownBy w' (some g) → K (a.put o.dst (goInt (n - 1 : Nat))) w') :
  if Region.wanted o (yielded ops a.tmps) = true then Oper.wp Try.prog o a w K Q else E := by
 have hw : Region.wanted o (yielded ops a.tmps) = true := by simp [Region.wanted, hgd]
 rw [if_pos hw];have hn : n = x.length := (Kd.R_reads' HO).1;have hown := Kd.own_of_R HO;subst hdl hsl;by_cases h0 : n - 1 = 0
 ·have hrun := run_copy_none (P := Try.prog) w 22 22 o.type 3 dp (some ⟨g, 0, none⟩) (n - 1) dCap (n - 1) sCap Try.underlying22 sizeInt (by rw [h0]; rfl)
  have hx : shr1 x = x := by
   unfold shr1
   rw [← hn, h0, List.take_zero, List.append_nil, List.take_of_length_le (by omega)]
  have h' := h w (by rw [hx]; exact HO) ⟨rfl, rfl, rfl, Nat.le_refl _, fun _ _ _ => rfl⟩;rw [h0] at h';unfold Oper.wp
  simp [execOp, ho, resolve, invoke, builtin, hd, hs, hrun, Result.andThen]
  exact h'
 obtain ⟨hl, hr⟩ := hown;rcases hr with ⟨hv, _⟩ | ⟨g', cap, cur, hv, hb, hh, hnc, hcm, hcs, ht⟩
 ·simp at hv
 injection hv with hv1 hv2 hv3
 injection hv1 with hv1
 injection hv1 with hv1
 subst hv1 hv3;rw [Nat.mul_one] at hcs ht;have hcl : cur.toList.length = co := by simpa using hcs
 have hdp' := hdp (by omega);subst hdp'
 have hcell : ∀ j v, (encs (Value.int .i64) (x.take (n - 1)))[j]? = some v → w.cell? ((⟨g, 0, none⟩ : Addr).add j) = some v := by
  intro j v hj
  have hj' : j < n - 1 := by
   have := (List.getElem?_eq_some_iff.1 hj).1;simp [encs] at this; omega
  have hc := (Kd.R_celln 0 HO (j : Int) (by omega) (by omega)).1;rw [Int.toNat_natCast] at hc;simp only [encs, List.getElem?_map, List.getElem?_take] at hj;rw [if_pos hj'] at hj;have hxj : j < x.length := by omega
  simp only [List.getElem?_eq_getElem hxj, Option.map_some] at hj;rw [show (⟨g, 0, none⟩ : Addr).add j = ⟨g, j, none⟩ from by (simp [Addr.add]; exact fun h => h.symm), hc, ← hj];simp [rdOf, List.getD, hxj]
  try omega
 have hrun := run_copy_row (P := Try.prog) w 22 22 o.type 3 g 1 (n - 1) dCap ⟨g, 0, none⟩ (n - 1) sCap cur 3 (encs (Value.int .i64) (x.take (n - 1))) Try.underlying22 sizeInt hh
  (by simp [encs]; omega) hcell (by simp [encs]; omega) (by intro v hv; simp only [encs, List.mem_map] at hv; obtain ⟨_, _, rfl⟩ := hv; rfl)
 have hlen : (encs (Value.int .i64) (x.take (n - 1))).length = n - 1 := by simp [encs]; omega
 have hR : Kd.R (Kd.int .i64) 3 (w.setRow g (cur.toList.take 1 ++ encs (Value.int .i64) (x.take (n - 1)) ++ cur.toList.drop (1 + (encs (Value.int .i64) (x.take (n - 1))).length)).toArray) base ok (.slice (some ⟨g, 0, none⟩) n co) (shr1 x) := by
  refine Kd.R_of_own ?_ HO.1;rw [shr1_length];refine ⟨by simp [encs, shr1_length], .inr ⟨g, co, _, by rw [hn], hb, setRow_heap w g _ _ _ _ hh, by omega, hcm, ?_, ?_⟩⟩
  ·simp [encs]; omega
  rw [Nat.mul_one]
  have e1 : cur.toList.take 1 = encs (Value.int .i64) (x.take 1) := by
   have := congrArg (List.take 1) ht;rw [List.take_take] at this;rw [show min 1 x.length = 1 from by omega] at this;rw [this]; simp [encs, List.map_take]
  simp only [List.append_assoc];rw [e1, hlen];rw [List.take_append, List.take_append];simp only [encs, List.length_map, List.length_take, List.map_take, shr1, List.map_append];rw [List.take_take, List.take_take, show min x.length 1 = 1 from by omega, show min (x.length - min 1 x.length) (n - 1) = n - 1 from by omega, ← hn, show n - min 1 n - min (n - 1) n = 0 from by omega, List.take_zero, List.append_nil]
 have h' := h _ hR (setRow_grown _ _ _);generalize w.setRow g (cur.toList.take 1 ++ encs (Value.int .i64) (x.take (n - 1)) ++ cur.toList.drop (1 + (encs (Value.int .i64) (x.take (n - 1))).length)).toArray = W' at hrun h';rw [hlen] at hrun;unfold Oper.wp
 simp [execOp, ho, resolve, invoke, builtin, hd, hs, hrun, Result.andThen]
 exact h'
end Go.Proofs.Ytlbddjojhcgpiaa.Hand
end
