/- What towerCoordinates_holds needs: texts Rk, Rt, Rl, put together. -/
import Derived.Test.YtlbddjojhcgpiaaKBC7
import Derived.ChangeOld
import Derived.OpenShut
import Derived.ProofKit
set_option linter.unusedVariables false
set_option linter.unusedSimpArgs false
set_option linter.unusedSectionVars false
set_option maxHeartbeats 8000000
set_option maxRecDepth 100000
-- Rk
section
namespace Go.Proofs.Ytlbddjojhcgpiaa.Rk
open Go.ChangeShapes Go.WideShapes Go.ChangeAt Go.RowKit Go.Proofs.YtlbddjojhcgpiaaW.PrintWords
def IsRow (w : World) (a : Option Addr) (len cap : Nat) (zs : List Int) : Prop :=
 (a = none ∧ len = 0 ∧ cap = 0 ∧ zs = []) ∨
 ∃ x, a = some x ∧ len ≤ cap ∧ cap ≤ maxLen ∧ zs.length = cap ∧ (∀ i, i < zs.length → w.cell? (x.add i) = some (.int .i64 (zs.getD i 0))) ∧ ∀ n ∈ zs, (Lit.int .i64 n).wf = true
structure Row (w : World) (A : Option Addr) (c : Nat) (l : List Int) : Prop where
 reads : Kd.C (Kd.int .i64) w A l.length l
 cap : l.length ≤ c
 max : l.length ≤ maxLen
 wf : ∀ x ∈ l, (Lit.int .i64 x).wf = true
theorem row_of {w : World} {a : Option Addr} {len cap : Nat} {zs : List Int} (h : IsRow w a len cap zs) : ∃ l : List Int, len = l.length ∧ Row w a cap l := by
 obtain ⟨l, e, h1, h2, h3, h4⟩ := ReadsInt.ofRowC h;exact ⟨l, e, Kd.C_of_reads h1, h4, h2, h3⟩
section
variable {H : Type} {enc : TypeId × Value → H} {W : World} {fuel : Nat} {cs : List Value} {x : DataW H × List MemPlace}
theorem int_cells (h : DataW.trod enc Try.prog W 0 (fun _ => true) true fuel 3 cs = some x) : ∃ n, cs = [.int .i64 n] ∧ (Lit.int .i64 n).wf = true := by
 obtain ⟨n, h1, _, h2⟩ := DataW.trod_int Try.underlying3 h;exact ⟨n, h1, h2⟩
theorem row_cells (h : DataW.trod enc Try.prog W 0 (fun _ => true) true fuel 22 cs = some x) : ∃ A c l, cs = [.slice A l.length c] ∧ Row W A c l := by
 rcases open_ints Try.underlying22 Try.underlying3 (by kernel_rfl) h with ⟨hcs, _⟩ | ⟨a, len, cap, zs, hcs, _, hl, hm, hz, _, hcell, hwz⟩
 ·obtain ⟨l, e, hr⟩ := row_of (w := W) (zs := []) (Or.inl ⟨rfl, rfl, rfl, rfl⟩);exact ⟨none, 0, l, by rw [← e]; exact hcs, hr⟩
 obtain ⟨l, e, hr⟩ := row_of (w := W) (a := some a) (len := len) (cap := cap) (zs := zs) (Or.inr ⟨a, rfl, hl, hm, by simpa using hz, hcell, hwz⟩);exact ⟨some a, cap, l, by rw [← e]; exact hcs, hr⟩
theorem field_cells (h : DataW.trod enc Try.prog W 0 (fun _ => true) true fuel 24 cs = some x) :
  ∃ P M A c l, cs = [.int .i64 P, .int .i64 M, .slice A l.length c] ∧ (Lit.int .i64 P).wf = true ∧ (Lit.int .i64 M).wf = true ∧ Row W A c l := by
 obtain ⟨xs, n, -, -, hl, hx, hf⟩ := DataW.trod_struct Try.underlying24 h;have hc : Try.prog.cellsOf 24 = 3 := by kernel_rfl
 have h3 : Try.prog.cellsOf 3 = 1 := by kernel_rfl
 have h22 : Try.prog.cellsOf 22 = 1 := by kernel_rfl
 rw [hc] at hl;match cs, hl with
 | [c0, c1, c2], _ =>
  match xs, hx with
  | [y0, y1, y2], _ =>
   have f0 : DataW.trod enc Try.prog W 0 (fun _ => true) true n 3 (List.take (Try.prog.cellsOf 3) (List.drop 0 [c0, c1, c2])) = some y0 := hf 0 _ rfl;rw [h3] at f0;have f0 : DataW.trod enc Try.prog W 0 (fun _ => true) true n 3 [c0] = some y0 := f0;have f1 : DataW.trod enc Try.prog W 0 (fun _ => true) true n 3 (List.take (Try.prog.cellsOf 3) (List.drop 1 [c0, c1, c2])) = some y1 := hf 1 _ rfl;rw [h3] at f1;have f1 : DataW.trod enc Try.prog W 0 (fun _ => true) true n 3 [c1] = some y1 := f1;have f2 : DataW.trod enc Try.prog W 0 (fun _ => true) true n 22 (List.take (Try.prog.cellsOf 22) (List.drop 2 [c0, c1, c2])) = some y2 := hf 2 _ rfl;rw [h22] at f2;have f2 : DataW.trod enc Try.prog W 0 (fun _ => true) true n 22 [c2] = some y2 := f2;obtain ⟨P, e0, w0⟩ := int_cells f0;obtain ⟨M, e1, w1⟩ := int_cells f1;obtain ⟨A, c, l, e2, r⟩ := row_cells f2;simp only [List.cons.injEq, and_true] at e0 e1 e2;exact ⟨P, M, A, c, l, by rw [e0, e1, e2], w0, w1, r⟩
end
theorem field_open {H : Type} {enc : TypeId × Value → H} {W : World} {b : Nat} {v : Value} {d : DataW H} {p : List MemPlace} (hv : Value.okWide Try.prog W .any b 24 v) (h : DataW.Trod enc Try.prog W 0 (fun _ => true) true 24 v d p) :
  ∃ P M A c l, v = .agg #[.int .i64 P, .int .i64 M, .slice A (l : List Int).length c] ∧ (Lit.int .i64 P).wf = true ∧ (Lit.int .i64 M).wf = true ∧ Row W A c l := by
 obtain ⟨cs, rfl, hsz⟩ := okWide_struct Try.underlying24 hv;obtain ⟨fuel, hf⟩ := h;obtain ⟨P, M, A, c, l, e, r⟩ := field_cells hf;refine ⟨P, M, A, c, l, ?_, r⟩;congr 1
 have : cs.toList = [.int .i64 P, .int .i64 M, .slice A l.length c] := by simpa [Value.cells] using e
 rw [← Array.toArray_toList (xs := cs), this]
end Go.Proofs.Ytlbddjojhcgpiaa.Rk
end
-- Rt
section
namespace Go.Proofs.Ytlbddjojhcgpiaa.Rk
open Go.ChangeShapes Go.WideShapes Go.ChangeAt Go.RowKit Go.Proofs.YtlbddjojhcgpiaaW.PrintWords
theorem two_open {H : Type} {enc : TypeId × Value → H} {W : World} {b : Nat} {v : Value} {d : DataW H} {p : List MemPlace} (hv : Value.okWide Try.prog W .any b 38 v) (h : DataW.Trod enc Try.prog W 0 (fun _ => true) true 38 v d p) :
  ∃ a c, v = .agg #[.int .i64 a, .int .i64 c] ∧ (Lit.int .i64 a).wf = true ∧ (Lit.int .i64 c).wf = true := by
 have hu : Try.prog.underlying 38 = some (.array 2 3) := by kernel_rfl
 have hcs : ∃ cs, v = .agg cs ∧ cs.size = Try.prog.cellsOf 38 := by
  simp only [Value.okWide, hu] at hv;obtain ⟨cs, h1, h2, _⟩ := hv;exact ⟨cs, h1, h2⟩
 obtain ⟨cs, rfl, hsz⟩ := hcs;obtain ⟨fuel, hf⟩ := h;have hc : Try.prog.cellsOf 38 = 2 := by kernel_rfl
 have h3 : Try.prog.cellsOf 3 = 1 := by kernel_rfl
 obtain ⟨xs, n, -, -, hl, hx, hi⟩ := DataW.trod_array hu hf;have hcells : (Value.cells (.agg cs)).toList = cs.toList := by simp [Value.cells]
 rw [hcells] at hl hi;rw [hc] at hl;match hcs : cs.toList, hl with
 | [c0, c1], _ =>
  rw [hcs] at hi;match xs, hx with
  | [y0, y1], _ =>
   have f0 := hi 0 (by decide);have f1 := hi 1 (by decide);rw [h3] at f0 f1;have f0 : DataW.trod enc Try.prog W 0 (fun _ => true) true n 3 [c0] = some y0 := f0;have f1 : DataW.trod enc Try.prog W 0 (fun _ => true) true n 3 [c1] = some y1 := f1;obtain ⟨a, e0, w0⟩ := int_cells f0;obtain ⟨c, e1, w1⟩ := int_cells f1;simp only [List.cons.injEq, and_true] at e0 e1;refine ⟨a, c, ?_, w0, w1⟩;congr 1
   rw [← Array.toArray_toList (xs := cs), hcs, e0, e1]
end Go.Proofs.Ytlbddjojhcgpiaa.Rk
end
-- Rl
section
namespace Go.Proofs.Ytlbddjojhcgpiaa.Rk
open Go.ChangeShapes Go.WideShapes Go.ChangeAt Go.RowKit Go.Proofs.YtlbddjojhcgpiaaW.PrintWords
theorem row_open {H : Type} {enc : TypeId × Value → H} {W : World} {b : Nat} {v : Value} {d : DataW H} {p : List MemPlace} (hv : Value.okWide Try.prog W .any b 22 v) (h : DataW.Trod enc Try.prog W 0 (fun _ => true) true 22 v d p) :
  ∃ A c l, v = .slice A (l : List Int).length c ∧ Row W A c l := by
 obtain ⟨a, len, cap, rfl⟩ := okWide_slice Try.underlying22 hv;obtain ⟨fuel, hf⟩ := h;obtain ⟨A, c, l, e, r⟩ := row_cells hf;have e' : [Value.slice a len cap] = [.slice A l.length c] := by simpa [Value.cells] using e
 injection e' with e1
 exact ⟨A, c, l, e1, r⟩
end Go.Proofs.Ytlbddjojhcgpiaa.Rk
end
