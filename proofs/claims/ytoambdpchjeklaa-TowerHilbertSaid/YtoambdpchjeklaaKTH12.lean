/- What towerHilbert_holds needs: texts D6, put together. -/
import Derived.Test.YtoambdpchjeklaaKTH11
set_option linter.unusedVariables false
set_option linter.unusedSimpArgs false
-- D6
section
namespace Go.Proofs.Ytoambdpchjeklaa.Pl
open Go.RowKit Go.Proofs.Ytoambdpchjeklaa.P Go.Proofs.Ytoambdpchjeklaa.Hand Go.Proofs.YtoambdpchjeklaaW.PrintWords
section
variable {F : Cw.RD} {mod : List Int}
def lwv (p d v : Nat) (t : Nat) : Nat := (Cw.dg p d v).getD t 0
theorem lwv_lt {p : Nat} (hp : 0 < p) (d v t : Nat) : lwv p d v t < p := by
  unfold lwv
  rw [List.getD_eq_getElem?_getD]
  by_cases h : t < (Cw.dg p d v).length
  · rw [List.getElem?_eq_getElem h]
    exact Cw.dg_lt hp d v _ (List.getElem_mem h)
  · rw [List.getElem?_eq_none (by omega)]
    exact hp
theorem lwv_tab (p d v : Nat) : tab d (lwv p d v) = Cw.dg p d v := by
  apply List.ext_getElem?
  intro i
  by_cases h : i < d
  · rw [tab_get _ h]
    unfold lwv
    rw [List.getD_eq_getElem?_getD, List.getElem?_eq_getElem (by rw [Cw.dg_length]; exact h)]; rfl
  · rw [tab_ge _ (by omega), List.getElem?_eq_none (by rw [Cw.dg_length]; omega)]
theorem low_v (low : List (Cw.Zp F.p)) : ∃ v, v < F.p ^ low.length ∧ Cw.El.zl' F.p low.length (lwv F.p low.length v) = low := by
  have hl : ∀ a, a ∈ low.map Cw.Zp.v → a < F.p := by
    intro a ha
    obtain ⟨b, _, rfl⟩ := List.mem_map.1 ha
    exact b.lt
  refine ⟨Cw.cd F.p (low.map Cw.Zp.v), by have := Cw.cd_lt _ hl; rwa [List.length_map] at this, ?_⟩
  have h1 := Cw.dg_cd _ hl
  rw [List.length_map] at h1
  apply List.ext_getElem?
  intro i
  unfold Cw.El.zl'
  by_cases h : i < low.length
  · rw [List.getElem?_map, List.getElem?_range h, List.getElem?_eq_getElem h]
    show some _ = some _
    congr 1
    unfold lwv
    rw [h1]
    show Cw.zi (((List.map Cw.Zp.v low).getD i 0 : Nat) : Int) = low[i]
    rw [List.getD_eq_getElem?_getD, List.getElem?_map, List.getElem?_eq_getElem h]
    exact Cw.zi_of _
  · rw [List.getElem?_eq_none (by simp; omega), List.getElem?_eq_none (by omega)]
def Free (F : Cw.RD) (d v : Nat) : Prop := ∀ d' v', 1 ≤ d' → d' < d ∨ d' = d ∧ v' < v → v' < F.p ^ d' → 2 * d' ≤ F.m → ∀ E, ¬ Cw.DivRel (Cw.El.md F) (Cw.El.zl' F.p d' (lwv F.p d' v') ++ [1]) E []
theorem Free.dom {d : Nat} (h : Free F d 0) (hd : F.m < 2 * d) : Cw.Dom (Cw.El F) := by
  refine Cw.El.dom_of_irr (fun low E h1 h2 hE => ?_)
  obtain ⟨v, hv, e⟩ := low_v low
  exact h low.length v h1 (Or.inl (by omega)) hv h2 E (by rw [e]; exact hE)
theorem dom_one (h : F.m = 1) : Cw.Dom (Cw.El F) := Cw.El.dom_of_irr (fun low E h1 h2 _ => by omega)
open Classical in
theorem irr_inner (hF : Fits F mod) (hm : F.m ≠ 1) (d : Nat) (hd : 1 ≤ d) (h2d : 2 * d ≤ F.m)
    (H : Free F (d + 1) 0 → Ev (fun k => codewrightref04_irreducible.l0 k mod (F.p : Int) ((F.p ^ d : Nat) : Int) ((d + 1 : Nat) : Int)) (decide (Cw.Dom (Cw.El F)))) : ∀ e v, v + e = F.p ^ d → Free F d v →
    Ev (fun k => codewrightref04_irreducible.l1 k mod (F.p : Int) ((F.p ^ d : Nat) : Int) (d : Int) (v : Int)) (decide (Cw.Dom (Cw.El F))) := by
  intro e
  have hp := hF.p_le
  have hp2 := F.prm.1
  have hm8 := hF.m_le
  have hs := hF.small
  have hpd : F.p ^ d ≤ F.p ^ F.m := Nat.pow_le_pow_right (by omega) (by omega)
  have hd1 : wrap64 ((d : Int) + 1) = ((d + 1 : Nat) : Int) := by rw [w64 (by omega) (by omega)]; rfl
  induction e with
  | zero =>
    intro v hv hf
    refine Ev.step (fun k => ?_) (H (fun d' v' h1 h2 h3 h4 E => ?_))
    · simp only [codewrightref04_irreducible.l1]
      rw [if_neg (by omega), hd1]
    · by_cases hdd : d' = d
      · subst hdd
        exact hf d' v' h1 (Or.inr ⟨rfl, by omega⟩) h3 h4 E
      · exact hf d' v' h1 (Or.inl (by omega)) h3 h4 E
  | succ e ih =>
    intro v hv hf
    have hvp : v < F.p ^ d := by omega
    have hvi : (v : Int) < ((F.p ^ d : Nat) : Int) := by omega
    have hv1 : wrap64 ((v : Int) + 1) = ((v + 1 : Nat) : Int) := by rw [w64 (by omega) (by omega)]; rfl
    have hdig := digits04_ev v F.p d (by omega) (by omega) (by omega)
    rw [← lwv_tab] at hdig
    rcases divides_ev hF hm d (lwv F.p d v) hd (by omega) (lwv_lt (by omega) d v) with ⟨E, hE, hE1, hE2, hev⟩ | ⟨hE, hev⟩
    · have hnd : ¬ Cw.Dom (Cw.El F) := fun hdom => by
        have hll : (Cw.El.zl' F.p d (lwv F.p d v)).length = d := by simp [Cw.El.zl']
        obtain ⟨x, y, _, _, h1, h2, h3⟩ := Cw.El.div_not_dom (by rw [hll]; exact hd) (by rw [hll]; omega) hE (by rw [hll]; exact hE1) (by rw [hll]; exact hE2)
        rcases hdom x y h1 with h | h
        · exact h2 h
        · exact h3 h
      rw [decide_eq_false hnd]
      refine Ev.step (fun k => by simp only [codewrightref04_irreducible.l1]; rw [if_pos hvi]) (Ev.bind hdig (Ev.bind hev ?_))
      exact Ev.congr (fun k => if_pos rfl) (Ev.now _)
    · refine Ev.step (fun k => by simp only [codewrightref04_irreducible.l1]; rw [if_pos hvi]) (Ev.bind hdig (Ev.bind hev ?_))
      refine Ev.congr (fun k => ?_) (ih (v + 1) (by omega) (fun d' v' h1 h2 h3 h4 E => ?_))
      · rw [if_neg (by decide), hv1]
      · by_cases hdd : d' = d ∧ v' = v
        · obtain ⟨rfl, rfl⟩ := hdd
          exact hE E
        · exact hf d' v' h1 (by omega) h3 h4 E
open Classical in
theorem irr_outer (hF : Fits F mod) (hm : F.m ≠ 1) : ∀ e d, d + e = 5 → 1 ≤ d → d ≤ F.m → Free F d 0 →
    Ev (fun k => codewrightref04_irreducible.l0 k mod (F.p : Int) ((F.p ^ (d - 1) : Nat) : Int) (d : Int)) (decide (Cw.Dom (Cw.El F))) := by
  intro e
  have hp := hF.p_le
  have hp2 := F.prm.1
  have hm8 := hF.m_le
  have hs := hF.small
  have hml := (hF.modm hm).1
  have stop : ∀ d, F.m < 2 * d → d ≤ 8 → Free F d 0 → Ev (fun k => codewrightref04_irreducible.l0 k mod (F.p : Int) ((F.p ^ (d - 1) : Nat) : Int) (d : Int)) (decide (Cw.Dom (Cw.El F))) := by
    intro d hd hd8 hf
    rw [decide_eq_true (hf.dom hd)]
    refine Ev.step (f := fun _ => some _) (fun k => ?_) (Ev.now _)
    simp only [codewrightref04_irreducible.l0]
    rw [w64 (by omega) (by omega), if_neg (by omega)]
  induction e with
  | zero =>
    intro d hd h1 hdm hf
    exact stop d (by omega) (by omega) hf
  | succ e ih =>
    intro d hd h1 hdm hf
    by_cases hc : F.m < 2 * d
    · exact stop d hc (by omega) hf
    · have hpd : F.p ^ d ≤ F.p ^ F.m := Nat.pow_le_pow_right (by omega) (by omega)
      have hin := irr_inner hF hm d h1 (by omega) (fun hf' => by
        have := ih (d + 1) (by omega) (by omega) (by omega) hf'
        rw [show d + 1 - 1 = d by omega] at this
        exact this) (F.p ^ d) 0 (by omega) hf
      refine Ev.step (fun k => ?_) hin
      have hmul : wrap64 (((F.p ^ (d - 1) : Nat) : Int) * (F.p : Int)) = ((F.p ^ d : Nat) : Int) := by
        rw [← Int.natCast_mul, ← Nat.pow_succ, show (d - 1).succ = d by omega, w64n _ (by omega)]
      simp only [codewrightref04_irreducible.l0]
      rw [w64 (n := 2 * (d : Int)) (by omega) (by omega), if_pos (by omega), hmul]
      rfl
open Classical in
theorem irreducible_ev (hF : Fits F mod) (hm : F.m ≠ 1) : Ev (fun k => codewrightref04_irreducible.f k mod (F.p : Int)) (decide (Cw.Dom (Cw.El F))) := by
  have h := irr_outer hF hm 4 1 (by omega) (by omega) F.mpos (fun d' v' h1 h2 h3 h4 E => by omega)
  rw [Nat.sub_self, Nat.pow_zero] at h
  exact h
end
def Shape (P M : Int) (mod : List Int) : Prop := ordV P M ≠ 0 ∧ Cw.Prm P.toNat ∧ (M = 1 ∧ mod = [] ∨ M ≠ 1 ∧ (mod.length : Int) = M ∧ ∀ i, i < mod.length → 0 ≤ mod.getD i 0 ∧ mod.getD i 0 < P)
theorem shape_fits {P M : Int} {mod : List Int} (h : Shape P M mod) : ∃ F : Cw.RD, Fits F mod ∧ (F.p : Int) = P ∧ (F.m : Int) = M := by
  obtain ⟨h1, h2, h3⟩ := h
  obtain ⟨p, m, rfl, rfl, hp1, hp2, hm1, hm2, hq, _⟩ := ordV_pos h1
  rw [Int.toNat_natCast] at h2
  rcases h3 with ⟨h3, rfl⟩ | ⟨h3, h4, h5⟩
  · refine ⟨⟨p, m, h2, by omega, fun _ => 0⟩, ⟨hq, fun i => ?_, fun _ => ⟨rfl, rfl⟩, fun h => ?_⟩, rfl, rfl⟩
    · show (0 : Int) ≤ 0 ∧ (0 : Int) < (p : Int)
      omega
    · exact absurd (by omega : m = 1) h
  · refine ⟨⟨p, m, h2, by omega, fun i => mod.getD i 0⟩, ⟨hq, fun i => ?_, fun h => ?_, fun h => ⟨?_, fun i hi => rfl⟩⟩, rfl, rfl⟩
    · show 0 ≤ mod.getD i 0 ∧ mod.getD i 0 < (p : Int)
      by_cases hi : i < mod.length
      · exact h5 i hi
      · rw [List.getD_eq_getElem?_getD, List.getElem?_eq_none (by omega)]
        show (0 : Int) ≤ 0 ∧ (0 : Int) < (p : Int)
        omega
    · exact absurd (show m = 1 from h) (by omega)
    · show mod.length = m
      omega
theorem fits_ord {F : Cw.RD} {mod : List Int} (h : Fits F mod) : ordV (F.p : Int) (F.m : Int) = ((F.p ^ F.m : Nat) : Int) := by
  have hp2 := F.prm.1
  have hm := F.mpos
  have hm8 := h.m_le
  have hs := h.small
  unfold ordV
  rw [Int.toNat_natCast, Int.toNat_natCast, if_pos ⟨by omega, by omega, by omega, hs⟩]
theorem range_loop (P M : Int) (mod : List Int) (hml : (mod.length : Int) = M) (hm8 : M ≤ 8) : ∀ e i, i + e = mod.length → (∀ t, t < i → 0 ≤ mod.getD t 0 ∧ mod.getD t 0 < P) →
    ((∀ t, t < mod.length → 0 ≤ mod.getD t 0 ∧ mod.getD t 0 < P) ∧ Ev (fun k => field_shape.l0 k mod (mod.length : Int) (i : Int) P M mod) true ∧ (∀ b, Ev (fun k => codewrightref04_Check.l0 k (mod.length : Int) P M mod) b → Ev (fun k => codewrightref04_Check.l0 k (i : Int) P M mod) b)) ∨
    ((¬ ∀ t, t < mod.length → 0 ≤ mod.getD t 0 ∧ mod.getD t 0 < P) ∧ Ev (fun k => field_shape.l0 k mod (mod.length : Int) (i : Int) P M mod) false ∧ Ev (fun k => codewrightref04_Check.l0 k (i : Int) P M mod) 1) := by
  intro e
  induction e with
  | zero =>
    intro i hi h
    obtain rfl : i = mod.length := by omega
    refine Or.inl ⟨h, ?_, fun b hb => hb⟩
    refine Ev.step (f := fun _ => some _) (fun k => ?_) (Ev.now _)
    simp only [field_shape.l0]
    rw [if_neg (by omega)]
  | succ e ih =>
    intro i hi h
    have hil : (i : Int) < (mod.length : Int) := by omega
    have hi0 : (0 : Int) ≤ (i : Int) := by omega
    have hi1 : wrap64 ((i : Int) + 1) = ((i + 1 : Nat) : Int) := by rw [w64 (by omega) (by omega)]; rfl
    have hr : rd mod (i : Int) = mod.getD i 0 := by unfold rd; rw [Int.toNat_natCast]
    have hiM : (i : Int) < M := by omega
    by_cases h1 : mod.getD i 0 < 0
    · refine Or.inr ⟨fun hh => by have := (hh i (by omega)).1; omega, ?_, ?_⟩
      · refine Ev.step (f := fun _ => some _) (fun k => ?_) (Ev.now _)
        simp only [field_shape.l0]
        rw [if_pos hil, if_pos hi0, if_pos hil, hr, if_pos h1]
      · refine Ev.step (f := fun _ => some _) (fun k => ?_) (Ev.now _)
        simp only [codewrightref04_Check.l0]
        rw [if_pos hiM, if_pos hi0, if_pos hil, hr, if_pos h1]
    by_cases h2 : mod.getD i 0 ≥ P
    · refine Or.inr ⟨fun hh => by have := (hh i (by omega)).2; omega, ?_, ?_⟩
      · refine Ev.step (f := fun _ => some _) (fun k => ?_) (Ev.now _)
        simp only [field_shape.l0]
        rw [if_pos hil, if_pos hi0, if_pos hil, hr, if_neg h1, if_pos h2]
      · refine Ev.step (f := fun _ => some _) (fun k => ?_) (Ev.now _)
        simp only [codewrightref04_Check.l0]
        rw [if_pos hiM, if_pos hi0, if_pos hil, hr, if_neg h1, if_pos h2]
    have s1 : ∀ b, Ev (fun k => field_shape.l0 k mod (mod.length : Int) ((i + 1 : Nat) : Int) P M mod) b → Ev (fun k => field_shape.l0 k mod (mod.length : Int) (i : Int) P M mod) b := fun b hb => by
      refine Ev.step (fun k => ?_) hb
      simp only [field_shape.l0]
      rw [if_pos hil, if_pos hi0, if_pos hil, hr, if_neg h1, if_neg h2, hi1]
    have s2 : ∀ b, Ev (fun k => codewrightref04_Check.l0 k ((i + 1 : Nat) : Int) P M mod) b → Ev (fun k => codewrightref04_Check.l0 k (i : Int) P M mod) b := fun b hb => by
      refine Ev.step (fun k => ?_) hb
      simp only [codewrightref04_Check.l0]
      rw [if_pos hiM, if_pos hi0, if_pos hil, hr, if_neg h1, if_neg h2, hi1]
    rcases ih (i + 1) (by omega) (fun t ht => by
      by_cases hti : t = i
      · rw [hti]; omega
      · exact h t (by omega)) with ⟨a1, a2, a3⟩ | ⟨a1, a2, a3⟩
    · exact Or.inl ⟨a1, s1 _ a2, fun b hb => s2 _ (a3 b hb)⟩
    · exact Or.inr ⟨a1, s1 _ a2, s2 _ a3⟩
open Classical in
theorem shape_check (P M : Int) (mod : List Int) (hP : P < 9223372036854775808) :
    (¬ Shape P M mod ∧ Ev (fun k => field_shape.f k P M mod) false ∧ Ev (fun k => codewrightref04_Check.f k P M mod) 1) ∨
    (∃ F : Cw.RD, Fits F mod ∧ (F.p : Int) = P ∧ (F.m : Int) = M ∧ Ev (fun k => field_shape.f k P M mod) true ∧ Ev (fun k => codewrightref04_Check.f k P M mod) (if Cw.Dom (Cw.El F) then 0 else 1)) := by
  have ho := order_ev P M
  have ho4 := order04_ev P M mod hP
  by_cases h1 : ordV P M = 0
  · refine Or.inl ⟨fun h => h.1 h1, ?_, ?_⟩
    · rw [h1] at ho
      refine Ev.bind ho (Ev.congr (fun k => if_pos rfl) (Ev.step (f := fun _ => some _) (fun k => ?_) (Ev.now _)))
      simp only [field_shape.j0]; rfl
    · rw [h1] at ho4
      refine Ev.bind ho4 (Ev.congr (fun k => if_pos rfl) (Ev.step (f := fun _ => some _) (fun k => ?_) (Ev.now _)))
      simp only [codewrightref04_Check.j0]; rfl
  obtain ⟨p, m, rfl, rfl, hp1, hp2, hm1, hm2, hq, hov⟩ := ordV_pos h1
  have ip := isPrime_ev p (by omega) hp1
  have ip4 := prime04_ev p (by omega) hp1
  have s1 : ∀ b, Ev (fun k => field_shape.j0 k (!decide (Cw.Prm p)) (p : Int) (m : Int) mod) b → Ev (fun k => field_shape.f k (p : Int) (m : Int) mod) b := fun b hb => Ev.bind ho (Ev.congr (fun k => if_neg h1) (Ev.bind ip hb))
  have s2 : ∀ b, Ev (fun k => codewrightref04_Check.j0 k (!decide (Cw.Prm p)) (p : Int) (m : Int) mod) b → Ev (fun k => codewrightref04_Check.f k (p : Int) (m : Int) mod) b := fun b hb => Ev.bind ho4 (Ev.congr (fun k => if_neg h1) (Ev.bind ip4 hb))
  by_cases hpr : Cw.Prm p
  · rw [decide_eq_true hpr] at s1 s2
    by_cases hm : m = 1
    · by_cases hl : mod = []
      · have hS : Shape (p : Int) (m : Int) mod := ⟨h1, by rw [Int.toNat_natCast]; exact hpr, Or.inl ⟨by omega, hl⟩⟩
        obtain ⟨F, hF, e1, e2⟩ := shape_fits hS
        refine Or.inr ⟨F, hF, e1, e2, s1 _ ?_, s2 _ ?_⟩
        · refine Ev.step (f := fun _ => some _) (fun k => ?_) (Ev.now _)
          simp only [field_shape.j0]
          rw [if_neg (by decide), if_pos (by omega), hl]; rfl
        · rw [if_pos (dom_one (by omega))]
          refine Ev.step (f := fun _ => some _) (fun k => ?_) (Ev.now _)
          simp only [codewrightref04_Check.j0]
          rw [if_neg (by decide), if_pos (by omega), hl]; rfl
      · have hl0 : ¬ (mod.length : Int) = 0 := fun h => hl (List.length_eq_zero_iff.1 (by omega))
        refine Or.inl ⟨fun h => ?_, s1 _ ?_, s2 _ ?_⟩
        · rcases h.2.2 with h | h
          · exact hl h.2
          · exact h.1 (by omega)
        · refine Ev.step (f := fun _ => some _) (fun k => ?_) (Ev.now _)
          simp only [field_shape.j0]
          rw [if_neg (by decide), if_pos (by omega)]
          congr 1
          exact beq_eq_false_iff_ne.2 hl0
        · refine Ev.step (f := fun _ => some _) (fun k => ?_) (Ev.now _)
          simp only [codewrightref04_Check.j0]
          rw [if_neg (by decide), if_pos (by omega), if_neg hl0]
    · have hmi : ¬ (m : Int) = 1 := by omega
      by_cases hl : (mod.length : Int) = (m : Int)
      · have t1 : ∀ b, Ev (fun k => field_shape.l0 k mod (mod.length : Int) 0 (p : Int) (m : Int) mod) b → Ev (fun k => field_shape.f k (p : Int) (m : Int) mod) b := fun b hb => s1 _ (Ev.step (fun k => by
          simp only [field_shape.j0]
          rw [if_neg (by decide), if_neg hmi, if_pos hl]) hb)
        have t2 : ∀ b, Ev (fun k => codewrightref04_Check.l0 k 0 (p : Int) (m : Int) mod) b → Ev (fun k => codewrightref04_Check.f k (p : Int) (m : Int) mod) b := fun b hb => s2 _ (Ev.step (fun k => by
          simp only [codewrightref04_Check.j0]
          rw [if_neg (by decide), if_neg hmi, if_pos hl]) hb)
        rcases range_loop (p : Int) (m : Int) mod hl (by omega) mod.length 0 (by omega) (fun t ht => by omega) with ⟨a1, a2, a3⟩ | ⟨a1, a2, a3⟩
        · have hS : Shape (p : Int) (m : Int) mod := ⟨h1, by rw [Int.toNat_natCast]; exact hpr, Or.inr ⟨hmi, hl, a1⟩⟩
          obtain ⟨F, hF, e1, e2⟩ := shape_fits hS
          refine Or.inr ⟨F, hF, e1, e2, t1 _ a2, t2 _ (a3 _ ?_)⟩
          have hirr := irreducible_ev hF (by omega)
          rw [e1] at hirr
          refine Ev.step (fun k => by simp only [codewrightref04_Check.l0]; rw [if_neg (by omega)]) (Ev.bind hirr ?_)
          refine Ev.congr (fun k => ?_) (Ev.now _)
          by_cases hd : Cw.Dom (Cw.El F)
          · rw [decide_eq_true hd, if_pos rfl, if_pos hd]
          · rw [decide_eq_false hd, if_neg (by decide), if_neg hd]
        · refine Or.inl ⟨fun h => ?_, t1 _ a2, t2 _ a3⟩
          rcases h.2.2 with h | h
          · exact hmi h.1
          · exact a1 h.2.2
      · refine Or.inl ⟨fun h => ?_, s1 _ ?_, s2 _ ?_⟩
        · rcases h.2.2 with h | h
          · exact hmi h.1
          · exact hl h.2.1
        · refine Ev.step (f := fun _ => some _) (fun k => ?_) (Ev.now _)
          simp only [field_shape.j0]
          rw [if_neg (by decide), if_neg hmi, if_neg hl]
        · refine Ev.step (f := fun _ => some _) (fun k => ?_) (Ev.now _)
          simp only [codewrightref04_Check.j0]
          rw [if_neg (by decide), if_neg hmi, if_neg hl]
  · rw [decide_eq_false hpr] at s1 s2
    refine Or.inl ⟨fun h => hpr (by have := h.2.1; rwa [Int.toNat_natCast] at this), s1 _ ?_, s2 _ ?_⟩
    · refine Ev.step (f := fun _ => some _) (fun k => ?_) (Ev.now _)
      simp only [field_shape.j0]; rfl
    · refine Ev.step (f := fun _ => some _) (fun k => ?_) (Ev.now _)
      simp only [codewrightref04_Check.j0]; rfl
end Go.Proofs.Ytoambdpchjeklaa.Pl
end
