/- What towerCoordinates_holds needs: texts LawBC, put together. -/
import Derived.Test.YtlbddjojhcgpiaaKBC15
import Derived.ChangeOld
import Derived.OpenShut
import Derived.ProofKit
import Derived.ShutString
import Derived.SizedLaws
import Derived.Test.YtlbddjojhcgpiaaRows
set_option linter.unusedVariables false
set_option linter.unusedSimpArgs false
set_option linter.unusedSectionVars false
set_option maxHeartbeats 8000000
set_option maxRecDepth 100000
-- LawBC
section
namespace Go.Proofs.Ytlbddjojhcgpiaa.towerCoordinates
open Go.ChangeShapes Go.WideShapes Go.ChangeAt Go.RowKit
open Go.ChangeMaps (open_string shut_string)
set_option linter.unusedVariables false
theorem own : ownKnob Try.prog.godebug = none := by kernel_rfl
theorem laidOut : laidOutB Try.prog = true := by kernel_rfl
theorem lifted (os : Os) (started : os.Started) (H : Type) (enc : TypeId × Value → H) :
  ReturnsInHanded {} Try.checked os 9 .any (Rows.towerCoordinatesSpec.pre6 enc Try.prog Try.f9 Rows.towerCoordinatesRow.domain false) (Rows.towerCoordinatesSpec.post enc Try.prog Try.f9 false true false false) := by
 refine returnsInHanded_of_change_sized (C := Try.checked) own started (by kernel_rfl) Try.func9
  (ChangeSpec.witness6 (enc := enc) (C := Try.checked) false ⟨#[], #[.agg #[.int .i64 0, .int .i64 0, .slice none 0 0], .slice none 0 0, .agg #[.int .i64 0, .int .i64 0]], []⟩ 8 (by kernel_rfl) (by kernel_rfl) (by kernel_rfl) (by kernel_rfl)) ?_
 intro W base args ds gs before hval0 hW hcnd hsz0 _;have hval : ∀ (j : Nat) t v, Try.f9.params[j]? = some t → args[j]? = some v → Value.okWide Try.prog W .any base t v := hval0;have hW' := hW;obtain ⟨p, q, hA0, hV, rfl, hfz, hnd⟩ := hW;have hA : DataW.TrodAll enc Try.prog W 0 (fun _ => true) true Try.f9.params.toList args.toList ds p := hA0;rw [Try.params9] at hA hval;obtain ⟨v0, vs0, d0, ds0, p0, q0, hargs, rfl, rfl, h0, r0⟩ := trodAll_cons hA;obtain ⟨v1, vs1, d1, ds1, p1, q1, rfl, rfl, rfl, h1, r1⟩ := trodAll_cons r0;obtain ⟨v2, vs2, d2, ds2, p2, q2, rfl, rfl, rfl, h2, r2⟩ := trodAll_cons r1;obtain ⟨rfl, rfl, rfl⟩ := trodAll_nil r2;obtain rfl : args = #[v0, v1, v2] := by cases args; simp_all
 obtain ⟨rfl, rfl⟩ := trodVars_none hV;have k0 := h0;have lt0 : ∀ x ∈ p0, x.block < W.heap.size := by obtain ⟨m, hm⟩ := k0; exact DataW.trod_lt m _ _ _ hm
 obtain ⟨P0, M0, A0, c0, l0, rfl, wP0, wM0, R0⟩ := Rk.field_open (hval 0 24 v0 rfl rfl) h0;have k1 := h1;have lt1 : ∀ x ∈ p1, x.block < W.heap.size := by obtain ⟨m, hm⟩ := k1; exact DataW.trod_lt m _ _ _ hm
 obtain ⟨A1, c1, l1, rfl, R1⟩ := Rk.row_open (hval 1 22 v1 rfl rfl) h1;have k2 := h2;have lt2 : ∀ x ∈ p2, x.block < W.heap.size := by obtain ⟨m, hm⟩ := k2; exact DataW.trod_lt m _ _ _ hm
 obtain ⟨a2, b2, rfl, wa2, wb2⟩ := Rk.two_open (hval 2 38 v2 rfl rfl) h2;clear hA0 hval0 hsz0;obtain ⟨k, hk⟩ := Pure.TowerCoordinates P0 M0 l0 l1 a2 b2 wP0 wM0 R0.max R0.wf R1.max R1.wf wa2 wb2;refine (P.l7TowerCoordinates.calls k P0 M0 A0 c0 l0 A1 c1 l1 a2 b2 true W R0.reads R0.cap R1.reads R1.cap  hk).mono fun e W' ⟨he, bel⟩ => ?_
 subst he;exact ⟨_, rfl, _, _, _, [], _, [], hW', trodAll_mk1 (shut_bool Try.underlying4 _), (trodAll_cons_mk (Below.trod laidOut (by kernel_rfl) (of_decide_eq_true (by kernel_rfl)) k0 bel lt0) (trodAll_cons_mk (Below.trod laidOut (by kernel_rfl) (of_decide_eq_true (by kernel_rfl)) k1 bel lt1) (trodAll_cons_mk (Below.trod laidOut (by kernel_rfl) (of_decide_eq_true (by kernel_rfl)) k2 bel lt2) trodAll_mk0))), rfl, bel.frame _, fun h => by cases h⟩
theorem over : Rows.towerCoordinatesRow.holds Try.pinned (OpenSpec.ofChange Rows.towerCoordinatesSpec) :=
 OpenClaim.holds_of_wide 9 Try.f9 rfl rfl rfl rfl rfl rfl rfl ⟨rfl, rfl, rfl, rfl, rfl⟩ rfl rfl rfl rfl rfl (by kernel_rfl) Try.func9 (by kernel_rfl)
  (of_decide_eq_true (by kernel_rfl)) (by unfold Func.isWrapper; first | (rw [if_pos (by decide +kernel)]; kernel_rfl) | (rw [if_neg (by decide +kernel)]; exact ⟨rfl, rfl⟩)) (fun os started H enc _ => lifted os started H enc)
theorem proved : Rows.TowerCoordinatesSaid := over
end Go.Proofs.Ytlbddjojhcgpiaa.towerCoordinates
namespace Go.Proofs.Ytlbddjojhcgpiaa
theorem towerCoordinates_holds : Rows.TowerCoordinatesSaid := towerCoordinates.proved
end Go.Proofs.Ytlbddjojhcgpiaa
end
